/-
  Numerals: what Itoa writes, Atoi reads back; nothing here speaks of a program.
-/
import Derived.Test.YtdnemlcoeecbjaaDoorMod
set_option linter.unusedVariables false
set_option linter.unusedSimpArgs false
namespace Go.Proofs.YtdnemlcoeecbjaaDoor
open Go Go.Dec

theorem dec_small {u : Nat} (h : u < 10) : Lib.decDigits u = [UInt8.ofNat (48 + u)] := by rw [Lib.decDigits, dif_pos h]
theorem dec_big {u : Nat} (h : ¬ u < 10) : Lib.decDigits u = Lib.decDigits (u / 10) ++ [UInt8.ofNat (48 + u % 10)] := by rw [Lib.decDigits, dif_neg h]
theorem u8_dig {k : Nat} (h : k < 10) : (UInt8.ofNat (48 + k)).toNat = 48 + k := by
  simp; omega

theorem dec_ne (u : Nat) : Lib.decDigits u ≠ [] := by
  by_cases h : u < 10
  · rw [dec_small h]; simp
  · rw [dec_big h]; simp

theorem dec_digit : ∀ (u : Nat) (c : UInt8), c ∈ Lib.decDigits u → 48 ≤ c.toNat ∧ c.toNat ≤ 57 := by
  intro u
  induction u using Nat.strongRecOn with
  | _ u ih =>
    intro c hc
    by_cases h : u < 10
    · rw [dec_small h] at hc
      simp only [List.mem_singleton] at hc
      subst hc
      rw [u8_dig h]; omega
    · rw [dec_big h] at hc
      rcases List.mem_append.1 hc with h1 | h1
      · exact ih _ (by omega) c h1
      · simp only [List.mem_singleton] at h1
        subst h1
        rw [u8_dig (by omega)]; omega

theorem parse_app : ∀ (l : List UInt8) (acc u : Nat) (c : UInt8), Lib.parseUint10 acc l = .ok u → 48 ≤ c.toNat → c.toNat ≤ 57 → u * 10 + (c.toNat - 48) < 18446744073709551616 → Lib.parseUint10 acc (l ++ [c]) = .ok (u * 10 + (c.toNat - 48))
  | [], acc, u, c, h, h1, h2, h3 => by
    simp only [Lib.parseUint10] at h
    injection h with h
    subst h
    simp only [List.nil_append, Lib.parseUint10]
    rw [if_pos ⟨h1, h2⟩, if_neg (by omega), if_neg (by omega)]
  | d :: l, acc, u, c, h, h1, h2, h3 => by
    simp only [Lib.parseUint10] at h
    simp only [List.cons_append, Lib.parseUint10]
    split at h
    · rename_i hd
      rw [if_pos hd]
      split at h
      · cases h
      · rename_i h4
        rw [if_neg h4]
        split at h
        · cases h
        · rename_i h5
          rw [if_neg h5]
          exact parse_app l _ u c h h1 h2 h3
    · cases h

theorem parse_dec : ∀ (u : Nat), u < 18446744073709551616 → Lib.parseUint10 0 (Lib.decDigits u) = .ok u := by
  intro u
  induction u using Nat.strongRecOn with
  | _ u ih =>
    intro hu
    by_cases h : u < 10
    · have h2 : 48 ≤ (UInt8.ofNat (48 + u)).toNat ∧ (UInt8.ofNat (48 + u)).toNat ≤ 57 := by rw [u8_dig h]; omega
      rw [dec_small h]
      simp only [Lib.parseUint10]
      rw [if_pos h2, if_neg (by omega), if_neg (by omega), u8_dig h]
      congr 1; omega
    · have h2 : (UInt8.ofNat (48 + u % 10)).toNat = 48 + u % 10 := u8_dig (by omega)
      rw [dec_big h]
      have h3 := parse_app _ 0 _ (UInt8.ofNat (48 + u % 10)) (ih (u / 10) (by omega) (by omega)) (by omega) (by omega) (by omega)
      rw [h3]
      congr 1; omega

theorem atoi_itoa {n : Int} (h0 : -9223372036854775808 ≤ n) (h1 : n ≤ 9223372036854775807) : Lib.atoiAll (Lib.itoa n) = .ok n := by
  unfold Lib.itoa
  split
  · rename_i hn
    have hc : (45 : UInt8).toNat = 45 := rfl
    simp only [Lib.atoiAll, hc]
    rw [if_pos (Or.inr trivial)]
    unfold Lib.parseMag
    rw [if_neg (dec_ne _), parse_dec _ (by omega)]
    simp only [not_true, false_and, if_false, true_and]
    rw [if_neg (by omega)]
    simp only [if_true]
    congr 1; omega
  · rename_i hn
    obtain ⟨c, r, hcr⟩ : ∃ c r, Lib.decDigits n.toNat = c :: r := by
      cases hd : Lib.decDigits n.toNat with
      | nil => exact absurd hd (dec_ne _)
      | cons c r => exact ⟨c, r, rfl⟩
    have hc := dec_digit n.toNat c (by rw [hcr]; exact List.mem_cons_self)
    have hp : Lib.parseMag (c :: r) = .ok n.toNat := by
      unfold Lib.parseMag
      rw [if_neg (by simp), ← hcr, parse_dec _ (by omega)]
    rw [hcr]
    simp only [Lib.atoiAll]
    rw [if_neg (by omega), hp]
    have h45 : ¬ c.toNat = 45 := by omega
    simp only [h45, not_false_eq_true, true_and, false_and, if_false]
    rw [if_neg (by omega)]
    congr 1; omega

/-- Digits, a sign perhaps ahead. -/
theorem itoa_byte {n : Int} {c : UInt8} (h : c ∈ Lib.itoa n) : c.toNat = 45 ∨ (48 ≤ c.toNat ∧ c.toNat ≤ 57) := by
  unfold Lib.itoa at h
  split at h
  · rcases List.mem_cons.1 h with rfl | h
    · exact .inl rfl
    · exact .inr (dec_digit _ c h)
  · exact .inr (dec_digit _ c h)
theorem itoa_ne (n : Int) : Lib.itoa n ≠ [] := by
  unfold Lib.itoa
  split
  · simp
  · exact dec_ne _

theorem dec_len : ∀ (k u : Nat), u < 10 ^ (k + 1) → (Lib.decDigits u).length ≤ k + 1
  | 0, u, h => by rw [dec_small (by simpa using h)]; simp
  | k + 1, u, h => by
    by_cases h1 : u < 10
    · rw [dec_small h1]; simp
    · rw [dec_big h1]
      have := dec_len k (u / 10) (by rw [Nat.pow_succ] at h; omega)
      simp; omega
theorem itoa_len {n : Int} (h0 : -9223372036854775808 ≤ n) (h1 : n ≤ 9223372036854775807) : (Lib.itoa n).length ≤ 20 := by
  unfold Lib.itoa
  split
  · have := dec_len 18 n.natAbs (by omega)
    simp; omega
  · have := dec_len 18 n.toNat (by omega)
    omega
end Go.Proofs.YtdnemlcoeecbjaaDoor
