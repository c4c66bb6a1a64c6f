import Derived.Test.YtkobngongonplaaGreatDoorMdl
import Derived.Test.YtkobngongonplaaGreatDoorEv
import Derived.KernelRfl
import Derived.Test.YtkobngongonplaaGreatDoorMod
/-
  The digest: what the code computes is a total function whose values have 16 bytes, all of them hexadecimal digits.
-/
set_option linter.unusedVariables false
set_option linter.unusedSimpArgs false
namespace Go.Proofs.YtkobngongonplaaGreatDoor
open Go Go.Dec
theorem wrapU_nat (x : Int) : ∃ u : Nat, u < 18446744073709551616 ∧ wrapU x = (u : Int) := by
  unfold wrapU
  exact ⟨(x % 18446744073709551616).toNat, by omega, by omega⟩
theorem wrapU_id {u : Nat} (h : u < 18446744073709551616) : wrapU (u : Int) = (u : Int) := by unfold wrapU; omega
theorem andU_nat {u v : Nat} (hu : u < 18446744073709551616) (hv : v < 18446744073709551616) : andU (u : Int) (v : Int) = ((u &&& v : Nat) : Int) := by
  have h1 : ((u : Int) % 18446744073709551616).toNat = u := by omega
  have h2 : ((v : Int) % 18446744073709551616).toNat = v := by omega
  unfold andU
  rw [h1, h2]
  exact wrapU_id (Nat.lt_of_le_of_lt Nat.and_le_left hu)
theorem shrU_nat (u n : Nat) (hn : n ≤ 64) : shrU (u : Int) (n : Int) = ((u / 2 ^ n : Nat) : Int) := by
  unfold shrU
  rw [Int.toNat_natCast, Nat.min_eq_left hn, Int.fdiv_eq_ediv_of_nonneg _ (Int.le_of_lt (Int.pow_pos (by decide)))]
  push_cast
  rfl
theorem sum_loop : ∀ (l : List Int) (h : Nat), h < 18446744073709551616 → ∃ u : Nat, u < 18446744073709551616 ∧ M.digest_Sum_loop1 l (h : Int) = some (u : Int)
  | [], h, hh => ⟨h, hh, rfl⟩
  | e :: es, h, hh => by
    simp only [M.digest_Sum_loop1]
    obtain ⟨u, hu, e1⟩ : ∃ u : Nat, u < 18446744073709551616 ∧ xorU (wrapU ((wrapU ((wrapU ((h : Int) + (wrapU e))) + (1 : Int))) * (10723151780598845931 : Int))) (shrU (wrapU ((wrapU ((wrapU ((h : Int) + (wrapU e))) + (1 : Int))) * (10723151780598845931 : Int))) (31 : Int)) = (u : Int) := wrapU_nat _
    rw [e1]
    exact sum_loop es u hu
def hsh (s : Str) : Nat := ((M.digest_Sum_loop1 (bytesOf s) (11400714819323198485 : Int)).getD 0).toNat
theorem hsh_eq (s : Str) : M.digest_Sum_loop1 (bytesOf s) (11400714819323198485 : Int) = some (hsh s : Int) ∧ hsh s < 18446744073709551616 := by
  obtain ⟨u, hu, e⟩ := sum_loop (bytesOf s) 11400714819323198485 (by decide)
  have e : M.digest_Sum_loop1 (bytesOf s) (11400714819323198485 : Int) = some (u : Int) := e
  unfold hsh
  rw [e]
  exact ⟨by simp, by simpa using hu⟩
def hexL : Str := [48, 49, 50, 51, 52, 53, 54, 55, 56, 57, 97, 98, 99, 100, 101, 102, 103, 104, 105, 106, 107, 108, 109, 110, 111, 112, 113, 114, 115, 116, 117, 118, 119, 120, 121, 122]
def dg (k : Nat) : UInt8 := hexL.getD k 0
theorem dg_idx {k : Nat} (h : k < 36) : idx hexL (k : Int) = some (dg k) := by
  rw [idx_nat]
  have : k < hexL.length := h
  rw [List.getElem?_eq_getElem this]
  simp [dg, List.getD, List.getElem?_eq_getElem this]
theorem dg_hex {k : Nat} (h : k < 16) : dg k ≠ 32 ∧ dg k ≠ 10 := by
  have : ∀ k : Fin 16, dg k ≠ 32 ∧ dg k ≠ 10 := by decide
  exact this ⟨k, h⟩
def hexm (u : Nat) : Str := if h : u < 16 then [dg u] else hexm (u / 16) ++ [dg (u % 16)]
termination_by u
decreasing_by omega
theorem hexm_lt {u : Nat} (h : u < 16) : hexm u = [dg u] := by rw [hexm, dif_pos h]
theorem hexm_ge {u : Nat} (h : ¬ u < 16) : hexm u = hexm (u / 16) ++ [dg (u % 16)] := by rw [hexm, dif_neg h]
theorem hexm_len : ∀ (k u : Nat), u < 16 ^ (k + 1) → (hexm u).length ≤ k + 1
  | 0, u, h => by rw [hexm_lt (by simpa using h)]; simp
  | k + 1, u, h => by
    by_cases hu : u < 16
    · rw [hexm_lt hu]; simp
    · rw [hexm_ge hu, List.length_append]
      have := hexm_len k (u / 16) (by rw [Nat.div_lt_iff_lt_mul (by decide)]; rw [Nat.pow_succ] at h; exact h)
      simp; omega
theorem hexm_hex (k : Nat) : ∀ (u : Nat), u < 16 ^ (k + 1) → ∀ c ∈ hexm u, c ≠ 32 ∧ c ≠ 10 := by
  induction k with
  | zero =>
    intro u h c hc
    have hu : u < 16 := by simpa using h
    rw [hexm_lt hu] at hc
    rw [List.mem_singleton.1 hc]; exact dg_hex hu
  | succ k ih =>
    intro u h c hc
    by_cases hu : u < 16
    · rw [hexm_lt hu] at hc
      rw [List.mem_singleton.1 hc]; exact dg_hex hu
    · rw [hexm_ge hu] at hc
      rcases List.mem_append.1 hc with hc | hc
      · exact ih (u / 16) (by rw [Nat.div_lt_iff_lt_mul (by decide)]; rw [Nat.pow_succ] at h; exact h) c hc
      · rw [List.mem_singleton.1 hc]; exact dg_hex (Nat.mod_lt _ (by decide))
def ints (l : Str) : List Int := l.map fun b : UInt8 => (b.toNat : Int)
theorem fb_exit {u i : Nat} {a : List Int} (hu : u < 16) : To (fun n => M.internal_strconv_formatBits_loop1 16 4 n (u : Int) (i : Int) a) ((u : Int), (i : Int), a) := by
  refine To.succ ?_
  simp only [M.internal_strconv_formatBits_loop1]
  exact To.neg (by show ¬ (16 : Int) ≤ _; omega) To.pure
theorem fb_loop (k : Nat) : ∀ (u i : Nat) (a : List Int), u < 16 ^ (k + 1) → u < 18446744073709551616 → a.length = 65 → k < i → i ≤ 65 →
    ∃ (u' i' : Nat) (a' : List Int), To (fun n => M.internal_strconv_formatBits_loop1 16 4 n (u : Int) (i : Int) a) ((u' : Int), (i' : Int), a') ∧ u' < 16 ∧ 0 < i' ∧ i' ≤ 65 ∧ a'.length = 65 ∧ (((dg u').toNat : Nat) : Int) :: a'.drop i' = ints (hexm u) ++ a.drop i := by
  induction k with
  | zero =>
    intro u i a h h64 ha hi hi2
    have hu : u < 16 := by simpa using h
    exact ⟨u, i, a, fb_exit hu, hu, hi, hi2, ha, by rw [hexm_lt hu]; rfl⟩
  | succ k ih =>
    intro u i a h h64 ha hi hi2
    by_cases hu : u < 16
    · exact ⟨u, i, a, fb_exit hu, hu, by omega, hi2, ha, by rw [hexm_lt hu]; rfl⟩
    · have hm : u % 16 < 36 := by have := Nat.mod_lt u (show 16 > 0 by decide); omega
      obtain ⟨u', i', a', h1, h2, h3, h4, h5, h6⟩ := ih (u / 16) (i - 1) (a.set (i - 1) (((dg (u % 16)).toNat : Nat) : Int)) (by rw [Nat.div_lt_iff_lt_mul (by decide)]; rw [Nat.pow_succ] at h; exact h) (by omega) (by simpa using ha) (by omega) (by omega)
      refine ⟨u', i', a', To.succ ?_, h2, h3, h4, h5, ?_⟩
      · simp only [M.internal_strconv_formatBits_loop1]
        have hs : subC (i : Int) 1 = some ((i - 1 : Nat) : Int) := by rw [subC_eq (by omega) (by omega)]; congr 1; omega
        have hand : andU (u : Int) (wrapU (wrapU 16 - 1)) = ((u % 16 : Nat) : Int) := by
          have e15 : wrapU (wrapU 16 - 1) = ((15 : Nat) : Int) := by decide
          rw [e15, andU_nat h64 (by decide)]
          have := Nat.and_two_pow_sub_one_eq_mod u 4
          have e2 : (2 : Nat) ^ 4 - 1 = 15 := by decide
          have e3 : (2 : Nat) ^ 4 = 16 := by decide
          rw [e2, e3] at this; rw [this]
        have hshr : shrU (u : Int) (wrapU 4) = ((u / 16 : Nat) : Int) := by
          have e4 : wrapU 4 = ((4 : Nat) : Int) := by decide
          rw [e4, shrU_nat u 4 (by decide)]
        rw [hand, hshr]
        refine To.pos (by show (16 : Int) ≤ _; omega) (To.bindS hs (To.bindS (dg_idx hm) (To.bindS (show rngC 65 ((i - 1 : Nat) : Int) = some () from if_pos (by omega)) ?_)))
        rw [Int.toNat_natCast]
        exact h1
      · rw [h6, hexm_ge hu]
        have hlt : i - 1 < a.length := by omega
        have hd : (a.set (i - 1) (((dg (u % 16)).toNat : Nat) : Int)).drop (i - 1) = (((dg (u % 16)).toNat : Nat) : Int) :: a.drop i := by
          rw [List.drop_eq_getElem_cons (by simpa using hlt), List.getElem_set_self, List.drop_set_of_lt (by omega), show i - 1 + 1 = i by omega]
        rw [hd]
        simp [ints]
theorem strOf_ints (l : Str) : strOf (ints l) = l := by
  unfold strOf ints
  rw [List.map_map]
  conv => rhs; rw [← List.map_id l]
  apply List.map_congr_left
  intro b _
  simp
theorem tz16 : M.math_bits_TrailingZeros (wrapU 16) = some 4 := by kernel_rfl
theorem pow16 : M.internal_strconv_isPowerOfTwo 16 = some true := by kernel_rfl
theorem formatUint (u : Nat) (h : u < 18446744073709551616) : To (fun n => M.strconv_FormatUint n (u : Int) 16) (hexm u) := by
  obtain ⟨u', i', a', h1, h2, h3, h4, h5, h6⟩ := fb_loop 15 u 65 (List.replicate 65 0) (by simpa using h) h (by simp) (by decide) (by decide)
  have hs : subC (i' : Int) 1 = some ((i' - 1 : Nat) : Int) := by rw [subC_eq (by omega) (by omega)]; congr 1; omega
  have hdrop : (a'.set (i' - 1) (((dg u').toNat : Nat) : Int)).drop (i' - 1) = ints (hexm u) := by
    have e65 : (List.replicate 65 (0 : Int)).drop 65 = [] := by simp
    rw [List.drop_eq_getElem_cons (by simpa [h5] using (by omega : i' - 1 < 65)), List.getElem_set_self, List.drop_set_of_lt (by omega), show i' - 1 + 1 = i' by omega, h6, e65, List.append_nil]
  have hC : To (fun n => Option.bind (M.internal_strconv_isPowerOfTwo 16) fun ispowe =>
      if ispowe = true then
        Option.bind (M.math_bits_TrailingZeros (wrapU 16)) fun traili =>
        Option.bind (M.internal_strconv_formatBits_loop1 16 traili n (u : Int) (65 : Int) (List.replicate 65 (0 : Int))) fun (u2, i1, a1) =>
          Option.bind (subC i1 (1 : Int)) fun v1 =>
          Option.bind (idx hexL u2) fun b2 =>
          Option.bind (rngC 65 v1) fun _ =>
          some (v1, a1.set v1.toNat (b2.toNat : Int))
      else
        Option.bind (M.internal_strconv_formatBits_loop2 16 n (u : Int) (65 : Int) (List.replicate 65 (0 : Int))) fun (u3, i2, a2) =>
          Option.bind (subC i2 (1 : Int)) fun v3 =>
          Option.bind (idx hexL u3) fun b3 =>
          Option.bind (rngC 65 v3) fun _ =>
          some (v3, a2.set v3.toNat (b3.toNat : Int))) (((i' - 1 : Nat) : Int), a'.set (i' - 1) (((dg u').toNat : Nat) : Int)) :=
    To.bindS pow16 (To.pos rfl (To.bindS tz16 (To.bind h1 (To.bindS hs (To.bindS (dg_idx (by omega)) (To.bindS (show rngC 65 ((i' - 1 : Nat) : Int) = some () from if_pos (by omega)) To.pure))))))
  have hB : To (fun n => M.internal_strconv_formatBits n [] (u : Int) 16 false false) ([], hexm u) := by
    simp only [M.internal_strconv_formatBits]
    refine To.bindS (a := ()) rfl (To.bindS (a := (u : Int)) rfl (To.bind hC (To.bindS (a := (((i' - 1 : Nat) : Int), a'.set (i' - 1) (((dg u').toNat : Nat) : Int))) rfl (To.neg (by decide) ?_))))
    refine To.bindS (a := ints (hexm u)) ?_ (To.pure.of (by rw [strOf_ints]))
    show slcLo _ ((i' - 1 : Nat) : Int) = _
    unfold slcLo
    rw [if_pos (by simp [h5]; omega), Int.toNat_natCast, hdrop]
  have hF : To (fun n => M.internal_strconv_FormatUint n (u : Int) 16) (hexm u) := by
    simp only [M.internal_strconv_FormatUint]
    exact To.neg (by decide) (To.bind hB To.pure)
  simp only [M.strconv_FormatUint]
  exact To.bind hF To.pure
def Sm (s : Str) : Str := List.replicate (16 - (hexm (hsh s)).length) 48 ++ hexm (hsh s)
theorem hexm16 (s : Str) : (hexm (hsh s)).length ≤ 16 := hexm_len 15 _ (by simpa using (hsh_eq s).2)
theorem Sm_len (s : Str) : (Sm s).length = 16 := by
  have := hexm16 s
  simp [Sm]; omega
theorem Sm_hex (s : Str) : ∀ c ∈ Sm s, c ≠ 32 ∧ c ≠ 10 := by
  intro c hc
  rcases List.mem_append.1 hc with hc | hc
  · rw [List.eq_of_mem_replicate hc]; decide
  · exact hexm_hex 15 _ (by simpa using (hsh_eq s).2) c hc
theorem digest_Sum (s : Str) : To (fun n => M.digest_Sum n s) (Sm s) := by
  have h16 := hexm16 s
  simp only [M.digest_Sum]
  refine To.bindS (hsh_eq s).1 (To.bind (formatUint _ (hsh_eq s).2) (To.bindS (a := ((16 - (hexm (hsh s)).length : Nat) : Int)) ?_ (To.bindS (a := List.replicate (16 - (hexm (hsh s)).length) 48) ?_ (To.bindS (catC_eq ?_) To.pure))))
  · rw [subC_eq (by omega) (by omega)]; congr 1; omega
  · unfold Dec.repeatM
    rw [if_pos ⟨by omega, by simp; omega⟩, Int.toNat_natCast]
    congr 1
    generalize 16 - (hexm (hsh s)).length = k
    induction k with
    | zero => rfl
    | succ k ih => rw [Lib.repeatL, ih]; rfl
  · simp; omega
end Go.Proofs.YtkobngongonplaaGreatDoor
/-
  Numerals: what Itoa writes, Atoi reads back; nothing here speaks of a program.
-/
set_option linter.unusedVariables false
set_option linter.unusedSimpArgs false
namespace Go.Proofs.YtkobngongonplaaGreatDoor
open Go Go.Dec
theorem dec_small {u : Nat} (h : u < 10) : Lib.decDigits u = [UInt8.ofNat (48 + u)] := by rw [Lib.decDigits, dif_pos h]
theorem dec_big {u : Nat} (h : ¬ u < 10) : Lib.decDigits u = Lib.decDigits (u / 10) ++ [UInt8.ofNat (48 + u % 10)] := by rw [Lib.decDigits, dif_neg h]
theorem u8_dig {k : Nat} (h : k < 10) : (UInt8.ofNat (48 + k)).toNat = 48 + k := by
  simp; omega
theorem dec_ne (u : Nat) : Lib.decDigits u ≠ [] := by
  by_cases h : u < 10
  · rw [dec_small h]; simp
  · rw [dec_big h]; simp
theorem dec_digit : ∀ (u : Nat) (c : UInt8), c ∈ Lib.decDigits u → 48 ≤ c.toNat ∧ c.toNat ≤ 57 := by
  intro u
  induction u using Nat.strongRecOn with
  | _ u ih =>
    intro c hc
    by_cases h : u < 10
    · rw [dec_small h] at hc
      simp only [List.mem_singleton] at hc
      subst hc
      rw [u8_dig h]; omega
    · rw [dec_big h] at hc
      rcases List.mem_append.1 hc with h1 | h1
      · exact ih _ (by omega) c h1
      · simp only [List.mem_singleton] at h1
        subst h1
        rw [u8_dig (by omega)]; omega
theorem parse_app : ∀ (l : List UInt8) (acc u : Nat) (c : UInt8), Lib.parseUint10 acc l = .ok u → 48 ≤ c.toNat → c.toNat ≤ 57 → u * 10 + (c.toNat - 48) < 18446744073709551616 → Lib.parseUint10 acc (l ++ [c]) = .ok (u * 10 + (c.toNat - 48))
  | [], acc, u, c, h, h1, h2, h3 => by
    simp only [Lib.parseUint10] at h
    injection h with h
    subst h
    simp only [List.nil_append, Lib.parseUint10]
    rw [if_pos ⟨h1, h2⟩, if_neg (by omega), if_neg (by omega)]
  | d :: l, acc, u, c, h, h1, h2, h3 => by
    simp only [Lib.parseUint10] at h
    simp only [List.cons_append, Lib.parseUint10]
    split at h
    · rename_i hd
      rw [if_pos hd]
      split at h
      · cases h
      · rename_i h4
        rw [if_neg h4]
        split at h
        · cases h
        · rename_i h5
          rw [if_neg h5]
          exact parse_app l _ u c h h1 h2 h3
    · cases h
theorem parse_dec : ∀ (u : Nat), u < 18446744073709551616 → Lib.parseUint10 0 (Lib.decDigits u) = .ok u := by
  intro u
  induction u using Nat.strongRecOn with
  | _ u ih =>
    intro hu
    by_cases h : u < 10
    · have h2 : 48 ≤ (UInt8.ofNat (48 + u)).toNat ∧ (UInt8.ofNat (48 + u)).toNat ≤ 57 := by rw [u8_dig h]; omega
      rw [dec_small h]
      simp only [Lib.parseUint10]
      rw [if_pos h2, if_neg (by omega), if_neg (by omega), u8_dig h]
      congr 1; omega
    · have h2 : (UInt8.ofNat (48 + u % 10)).toNat = 48 + u % 10 := u8_dig (by omega)
      rw [dec_big h]
      have h3 := parse_app _ 0 _ (UInt8.ofNat (48 + u % 10)) (ih (u / 10) (by omega) (by omega)) (by omega) (by omega) (by omega)
      rw [h3]
      congr 1; omega
theorem atoi_itoa {n : Int} (h0 : -9223372036854775808 ≤ n) (h1 : n ≤ 9223372036854775807) : Lib.atoiAll (Lib.itoa n) = .ok n := by
  unfold Lib.itoa
  split
  · rename_i hn
    have hc : (45 : UInt8).toNat = 45 := rfl
    simp only [Lib.atoiAll, hc]
    rw [if_pos (Or.inr trivial)]
    unfold Lib.parseMag
    rw [if_neg (dec_ne _), parse_dec _ (by omega)]
    simp only [not_true, false_and, if_false, true_and]
    rw [if_neg (by omega)]
    simp only [if_true]
    congr 1; omega
  · rename_i hn
    obtain ⟨c, r, hcr⟩ : ∃ c r, Lib.decDigits n.toNat = c :: r := by
      cases hd : Lib.decDigits n.toNat with
      | nil => exact absurd hd (dec_ne _)
      | cons c r => exact ⟨c, r, rfl⟩
    have hc := dec_digit n.toNat c (by rw [hcr]; exact List.mem_cons_self)
    have hp : Lib.parseMag (c :: r) = .ok n.toNat := by
      unfold Lib.parseMag
      rw [if_neg (by simp), ← hcr, parse_dec _ (by omega)]
    rw [hcr]
    simp only [Lib.atoiAll]
    rw [if_neg (by omega), hp]
    have h45 : ¬ c.toNat = 45 := by omega
    simp only [h45, not_false_eq_true, true_and, false_and, if_false]
    rw [if_neg (by omega)]
    congr 1; omega
theorem itoa_byte {n : Int} {c : UInt8} (h : c ∈ Lib.itoa n) : c.toNat = 45 ∨ (48 ≤ c.toNat ∧ c.toNat ≤ 57) := by
  unfold Lib.itoa at h
  split at h
  · rcases List.mem_cons.1 h with rfl | h
    · exact .inl rfl
    · exact .inr (dec_digit _ c h)
  · exact .inr (dec_digit _ c h)
theorem dec_len : ∀ (k u : Nat), u < 10 ^ (k + 1) → (Lib.decDigits u).length ≤ k + 1
  | 0, u, h => by rw [dec_small (by simpa using h)]; simp
  | k + 1, u, h => by
    by_cases h1 : u < 10
    · rw [dec_small h1]; simp
    · rw [dec_big h1]
      have := dec_len k (u / 10) (by rw [Nat.pow_succ] at h; omega)
      simp; omega
end Go.Proofs.YtkobngongonplaaGreatDoor
/-
  Pages: what they look like, and that they are read back.
-/
set_option linter.unusedVariables false
set_option linter.unusedSimpArgs false
namespace Go.Proofs.YtkobngongonplaaGreatDoor
open Go Go.Dec
theorem splitC_cons (c : UInt8) (s : Str) : ∃ p ps, splitC c s = p :: ps := by
  cases s with
  | nil => exact ⟨_, _, rfl⟩
  | cons b l =>
    unfold splitC
    split
    · exact ⟨_, _, rfl⟩
    · split
      · exact ⟨_, _, rfl⟩
      · exact ⟨_, _, rfl⟩
theorem cut_split (c : UInt8) : ∀ (s p : Str) (ps : List Str), splitC c s = p :: ps →
    (ps = [] → Lib.cut s [c] = (s, [], false) ∧ p = s) ∧ (ps ≠ [] → ∃ rest, Lib.cut s [c] = (p, rest, true) ∧ splitC c rest = ps ∧ s = p ++ c :: rest)
  | [], p, ps, h => by
    simp only [splitC, List.cons.injEq] at h
    obtain ⟨rfl, rfl⟩ := h
    exact ⟨fun _ => ⟨rfl, rfl⟩, fun h => absurd rfl h⟩
  | b :: l, p, ps, h => by
    obtain ⟨q, qs, hq⟩ := splitC_cons c l
    have ih := cut_split c l q qs hq
    have hpre : ([c] : List UInt8).isPrefixOf (b :: l) = (c == b) := by simp [List.isPrefixOf]
    unfold splitC at h
    by_cases hb : b = c
    · rw [if_pos hb] at h
      simp only [List.cons.injEq] at h
      obtain ⟨rfl, rfl⟩ := h
      subst hb
      have hi : Lib.index (b :: l) [b] = 0 := by
        unfold Lib.index
        rw [hpre]; simp
      refine ⟨fun e => absurd (hq ▸ e) (by simp), fun _ => ⟨l, ?_, rfl, rfl⟩⟩
      unfold Lib.cut
      rw [hi]; rfl
    · rw [if_neg hb, hq] at h
      simp only [List.cons.injEq] at h
      obtain ⟨rfl, rfl⟩ := h
      have hi : Lib.index (b :: l) [c] = if Lib.index l [c] == -1 then -1 else Lib.index l [c] + 1 := by
        rw [Lib.index]
        rw [hpre]
        have : (c == b) = false := by simpa using fun e => hb (Eq.symm e)
        rw [this]; rfl
      have hge : Lib.index l [c] = -1 ∨ 0 ≤ Lib.index l [c] := by
        rcases Lib.index_spec l [c] with ⟨h1, _⟩ | ⟨i, h1, _⟩
        · exact .inl h1
        · exact .inr (by omega)
      refine ⟨fun e => ?_, fun e => ?_⟩
      · obtain ⟨h1, h2⟩ := ih.1 e
        have h3 : Lib.index l [c] = -1 := by
          unfold Lib.cut at h1
          split at h1
          · have := congrArg (fun x => x.2.2) h1; cases this
          · omega
        refine ⟨?_, by rw [h2]⟩
        unfold Lib.cut
        rw [hi, h3]; rfl
      · obtain ⟨rest, h1, h2, h3⟩ := ih.2 e
        have h4 : 0 ≤ Lib.index l [c] := by
          unfold Lib.cut at h1
          split at h1
          · assumption
          · have := congrArg (fun x => x.2.2) h1; cases this
        refine ⟨rest, ?_, h2, by rw [h3]; rfl⟩
        unfold Lib.cut at h1 ⊢
        rw [if_pos h4] at h1
        have h5 : (Lib.index l [c] == -1) = false := by simp; omega
        rw [hi, h5]
        simp only [Bool.false_eq_true, if_false]
        rw [if_pos (by omega)]
        obtain ⟨m, hm⟩ : ∃ m : Nat, Lib.index l [c] = (m : Int) := ⟨(Lib.index l [c]).toNat, by omega⟩
        rw [hm] at h1 ⊢
        have h6 : ((m : Int) + 1).toNat = m + 1 := by omega
        rw [h6]
        simp only [Int.toNat_natCast] at h1
        simp only [List.take_succ_cons, List.length_cons, List.length_nil, Prod.mk.injEq] at h1 ⊢
        refine ⟨by rw [h1.1], ?_, trivial⟩
        rw [← h1.2.1]
        rfl
theorem split_no {c : UInt8} : ∀ {l : Str}, c ∉ l → splitC c l = [l]
  | [], _ => rfl
  | b :: l, h => by
    have h1 : b ≠ c := fun e => h (by rw [e]; exact List.mem_cons_self)
    rw [splitC, if_neg h1, split_no (fun hm => h (List.mem_cons_of_mem _ hm))]
theorem split_app {c : UInt8} : ∀ {l : Str} (t : Str), c ∉ l → splitC c (l ++ c :: t) = l :: splitC c t
  | [], t, _ => by simp [splitC]
  | b :: l, t, h => by
    have h1 : b ≠ c := fun e => h (by rw [e]; exact List.mem_cons_self)
    rw [List.cons_append, splitC, if_neg h1, split_app t (fun hm => h (List.mem_cons_of_mem _ hm))]
theorem cut_app {c : UInt8} {l : Str} (t : Str) (h : c ∉ l) : Lib.cut (l ++ c :: t) [c] = (l, t, true) := by
  obtain ⟨q, qs, hq⟩ := splitC_cons c t
  obtain ⟨rest, h1, h2, h3⟩ := (cut_split c (l ++ c :: t) l (splitC c t) (split_app t h)).2 (by rw [hq]; simp)
  have : rest = t := by
    have := List.append_cancel_left h3
    exact (List.cons.inj this).2.symm
  rw [h1, this]
def nm (p : Int) : Str := if p = -1 then [45] else Lib.itoa p
def smm (m : journal_mark) (sign text : Str) : Str := Sm (m.sum_ ++ [10] ++ sign ++ [10] ++ text)
def pgT (m : journal_mark) (sign text : Str) : Str := nm m.page_ ++ [32] ++ smm m sign text ++ [32] ++ sign ++ [10] ++ text
structure MarkOk (m : journal_mark) : Prop where
  sum : m.sum_.length ≤ 16
  low : -1 ≤ m.page_
  high : m.page_ ≤ 4096
theorem nm_len {p : Int} (h0 : -1 ≤ p) (h1 : p ≤ 4096) : (nm p).length ≤ 4 := by
  unfold nm
  split
  · simp
  · unfold Lib.itoa
    rw [if_neg (by omega)]
    exact dec_len 3 p.toNat (by have : (10 : Nat) ^ 4 = 10000 := by decide
                                omega)
theorem nm_no {p : Int} {c : UInt8} (h : c.toNat < 45) : c ∉ nm p := by
  unfold nm
  split
  · intro hm
    rw [List.mem_singleton.1 hm] at h
    exact absurd h (by decide)
  · intro hm
    rcases itoa_byte hm with h1 | h1 <;> omega
theorem page_ok {m : journal_mark} (hm : MarkOk m) (sign text : Str) (hs : sign.length ≤ 1) (ht : text.length ≤ 1000000) : To (fun n => M.journal_page n m sign text) (pgT m sign text, smm m sign text) := by
  have h1 := hm.sum
  have hn := nm_len hm.low hm.high
  have hsum : To (fun n => M.journal_sum n m.sum_ sign text) (smm m sign text) := by
    simp only [M.journal_sum]
    refine To.bindS (catC_eq (by simp; omega)) (To.bindS (catC_eq (by simp; omega)) (To.bindS (catC_eq (by simp; omega)) (To.bindS (catC_eq (by simp; omega)) (To.bind (digest_Sum _) (To.pure.of ?_)))))
    simp [smm]
  have hl : (smm m sign text).length = 16 := Sm_len _
  have hname : M.journal_name m.page_ = some (nm m.page_) := by
    unfold M.journal_name nm
    split
    · rfl
    · rfl
  simp only [M.journal_page]
  refine To.bind hsum (To.bindS hname (To.bindS (catC_eq (by simp; omega)) (To.bindS (catC_eq (by simp; omega)) (To.bindS (catC_eq (by simp; omega)) (To.bindS (catC_eq (by simp; omega)) (To.bindS (catC_eq (by simp; omega)) (To.bindS (catC_eq (by simp; omega)) (To.pure.of ?_))))))))
  simp [pgT]
theorem pgT_len {m : journal_mark} (hm : MarkOk m) {sign text : Str} (hs : sign.length ≤ 1) (ht : text.length ≤ 16320) : (pgT m sign text).length ≤ 16384 := by
  have hn := nm_len hm.low hm.high
  have hl : (smm m sign text).length = 16 := Sm_len _
  simp [pgT, hl]; omega
theorem open_ok {m : journal_mark} (hm : MarkOk m) (at0 : Int) {sign : Str} (hs : sign = [43] ∨ sign = [46]) (text : Str) (ht : text.length ≤ 1000000) :
    M.journal_open at0 (pgT m sign text) = some ((⟨at0, m.page_, sign, text, pgT m sign text⟩ : journal_read), true) := by
  have hn := nm_len hm.low hm.high
  have hl : (smm m sign text).length = 16 := Sm_len _
  have hsl : sign.length = 1 := by rcases hs with rfl | rfl <;> rfl
  have hx := Sm_hex (m.sum_ ++ [10] ++ sign ++ [10] ++ text)
  have n32 : (32 : UInt8) ∉ nm m.page_ := nm_no (by decide)
  have n10 : (10 : UInt8) ∉ nm m.page_ := nm_no (by decide)
  have s32 : (32 : UInt8) ∉ smm m sign text := fun h => (hx _ h).1 rfl
  have s10 : (10 : UInt8) ∉ smm m sign text := fun h => (hx _ h).2 rfl
  have g32 : (32 : UInt8) ∉ sign := by rcases hs with rfl | rfl <;> decide
  have g10 : (10 : UInt8) ∉ sign := by rcases hs with rfl | rfl <;> decide
  let line := nm m.page_ ++ 32 :: (smm m sign text ++ 32 :: sign)
  have e : pgT m sign text = line ++ 10 :: text := by simp [pgT, line]
  have l10 : (10 : UInt8) ∉ line := by simp [line, n10, s10, g10]
  have hcut : cutM (pgT m sign text) [10] = some (line, text, true) := by
    unfold cutM
    rw [if_pos (by simp [pgT, hl]; omega), e, cut_app text l10]
  have hsplit : splitM line [32] = some [nm m.page_, smm m sign text, sign] := by
    unfold splitM
    show (if line.length < 4294967281 then some (splitC 32 line) else none) = _
    rw [if_pos (by simp [line, hl]; omega)]
    show some (splitC 32 (nm m.page_ ++ 32 :: (smm m sign text ++ 32 :: sign))) = _
    rw [split_app _ n32, split_app _ s32, split_no g32]
  have i0 : idx [nm m.page_, smm m sign text, sign] (0 : Int) = some (nm m.page_) := rfl
  have i2 : idx [nm m.page_, smm m sign text, sign] (2 : Int) = some sign := rfl
  unfold M.journal_open
  simp only [hcut, hsplit, Option.bind_some, i0, i2]
  have hc : (if (true : Bool) = false then some true else if (([nm m.page_, smm m sign text, sign].length : Nat) : Int) ≠ 3 then some true else if (sign != [43]) = true then some (sign != [46]) else some false) = some false := by
    rcases hs with rfl | rfl <;> rfl
  rw [hc]
  simp only [Option.bind_some]
  rw [if_neg (by decide)]
  by_cases hp : m.page_ = -1
  · have hnm : nm m.page_ = [45] := by unfold nm; rw [if_pos hp]
    rw [hnm, hp]
    rfl
  · have hp0 : 0 ≤ m.page_ := by have := hm.low; omega
    have hnm : nm m.page_ = Lib.itoa m.page_ := by unfold nm; rw [if_neg hp]
    have h45 : Lib.itoa m.page_ ≠ [45] := by
      intro h
      have : (45 : UInt8) ∈ Lib.itoa m.page_ := by rw [h]; simp
      unfold Lib.itoa at this
      rw [if_neg (by omega)] at this
      have := dec_digit _ _ this
      exact absurd this.1 (by decide)
    have hb : (Lib.itoa m.page_ != [45]) = true := by simpa using h45
    have hlen : (Lib.itoa m.page_).length ≤ 281474976710656 := by rw [← hnm]; omega
    have hat : atoiB (Lib.itoa m.page_) = some (m.page_, false) := by
      unfold atoiB
      rw [if_pos hlen, atoi_itoa (by omega) (by have := hm.high; omega)]
    have hit : itoaM m.page_ = some (Lib.itoa m.page_) := rfl
    rw [hnm]
    simp only [hat, hit, Option.bind_some]
    rw [if_pos hb, if_neg (by decide), if_neg (by omega), if_neg (by simp)]
    rfl
end Go.Proofs.YtkobngongonplaaGreatDoor
/-
  Texts in parts; a store that is written; a journal that is appended to.
-/
set_option linter.unusedVariables false
set_option linter.unusedSimpArgs false
namespace Go.Proofs.YtkobngongonplaaGreatDoor
open Go Go.Dec
def cutP (t : Str) : List Str := if h : t.length ≤ 16320 then [t] else t.take 16320 :: cutP (t.drop 16320)
termination_by t.length
decreasing_by simp; omega
theorem cutP_le {t : Str} (h : t.length ≤ 16320) : cutP t = [t] := by rw [cutP, dif_pos h]
theorem cutP_gt {t : Str} (h : ¬ t.length ≤ 16320) : cutP t = t.take 16320 :: cutP (t.drop 16320) := by rw [cutP, dif_neg h]
theorem cutP_ne (t : Str) : cutP t ≠ [] := by
  by_cases h : t.length ≤ 16320
  · rw [cutP_le h]; simp
  · rw [cutP_gt h]; simp
theorem cutP_ind (P : Str → Prop) (h1 : ∀ t : Str, t.length ≤ 16320 → P t) (h2 : ∀ t : Str, ¬ t.length ≤ 16320 → P (t.drop 16320) → P t) : ∀ t, P t := by
  have : ∀ (n : Nat) (t : Str), t.length ≤ n → P t := by
    intro n
    induction n with
    | zero => intro t ht; exact h1 t (by omega)
    | succ n ih =>
      intro t ht
      by_cases h : t.length ≤ 16320
      · exact h1 t h
      · exact h2 t h (ih _ (by simp; omega))
  exact fun t => this t.length t (Nat.le_refl _)
theorem cutP_flat : ∀ t : Str, (cutP t).flatten = t := cutP_ind _ (fun t h => by rw [cutP_le h]; simp) (fun t h ih => by rw [cutP_gt h, List.flatten_cons, ih, List.take_append_drop])
theorem cutP_small : ∀ t : Str, ∀ x ∈ cutP t, x.length ≤ 16320 := cutP_ind _ (fun t h x hx => by rw [cutP_le h] at hx; rw [List.mem_singleton.1 hx]; exact h)
  (fun t h ih x hx => by
    rw [cutP_gt h] at hx
    rcases List.mem_cons.1 hx with rfl | hx
    · rw [List.length_take]; omega
    · exact ih x hx)
theorem cutP_len : ∀ t : Str, (cutP t).length = (t.length - 1) / 16320 + 1 := cutP_ind _ (fun t h => by rw [cutP_le h]; simp; omega)
  (fun t h ih => by rw [cutP_gt h, List.length_cons, ih, List.length_drop]; omega)
theorem cut_loop : ∀ t : Str, ∀ out : List Str, out.length + t.length ≤ 1000000000 → ∃ i l, cutP t = i ++ [l] ∧ To (fun n => M.journal_cut_loop1 n t out) (l, out ++ i) :=
  cutP_ind _ (fun t h out ho => ⟨[], t, cutP_le h, To.succ (by simp only [M.journal_cut_loop1]; exact To.neg (by omega) (To.pure.of (by simp)))⟩)
  (fun t h ih out ho => by
    obtain ⟨i, l, h1, h2⟩ := ih (out ++ [t.take 16320]) (by simp; omega)
    refine ⟨t.take 16320 :: i, l, by rw [cutP_gt h, h1]; rfl, To.succ ?_⟩
    simp only [M.journal_cut_loop1]
    have e1 : slcHi t 16320 = some (t.take 16320) := by unfold slcHi; rw [if_pos ⟨by omega, by omega⟩]; rfl
    have e2 : slcLo t 16320 = some (t.drop 16320) := by unfold slcLo; rw [if_pos ⟨by omega, by omega⟩]; rfl
    refine To.pos (by omega) (To.bindS e1 (To.bindS (appC_eq (by simp; omega)) (To.bindS e2 (h2.of (by simp)))))
    )
theorem cut_ok (t : Str) (h : t.length ≤ 261120) : To (fun n => M.journal_cut n t) (cutP t) := by
  obtain ⟨i, l, h1, h2⟩ := cut_loop t [] (by simp; omega)
  have hl := cutP_len t
  simp only [M.journal_cut]
  refine To.neg (by omega) (To.bind h2 (To.bindS (a := cutP t) ?_ To.pure))
  show appC ([] ++ i) [l] = _
  rw [List.nil_append, appC_eq ?_, h1]
  rw [h1] at hl; simp at hl ⊢; omega
theorem rcut_loop : ∀ t : Str, ∀ out : List Str, out.length + t.length ≤ 1000000000 → ∃ i l, cutP t = i ++ [l] ∧ To (fun n => M.r14_Cut_loop1 n t out) (l, out ++ i) :=
  cutP_ind _ (fun t h out ho => ⟨[], t, cutP_le h, To.succ (by simp only [M.r14_Cut_loop1]; exact To.neg (by omega) (To.pure.of (by simp)))⟩)
  (fun t h ih out ho => by
    obtain ⟨i, l, h1, h2⟩ := ih (out ++ [t.take 16320]) (by simp; omega)
    refine ⟨t.take 16320 :: i, l, by rw [cutP_gt h, h1]; rfl, To.succ ?_⟩
    simp only [M.r14_Cut_loop1]
    have e1 : slcHi t 16320 = some (t.take 16320) := by unfold slcHi; rw [if_pos ⟨by omega, by omega⟩]; rfl
    have e2 : slcLo t 16320 = some (t.drop 16320) := by unfold slcLo; rw [if_pos ⟨by omega, by omega⟩]; rfl
    refine To.pos (by omega) (To.bindS e1 (To.bindS (appC_eq (by simp; omega)) (To.bindS e2 (h2.of (by simp))))))
theorem rcut_ok (t : Str) (h : t.length ≤ 100000000) : To (fun n => M.r14_Cut n t) (cutP t) := by
  obtain ⟨i, l, h1, h2⟩ := rcut_loop t [] (by simp; omega)
  have hl := cutP_len t
  simp only [M.r14_Cut]
  refine To.bind h2 (To.bindS (a := cutP t) ?_ To.pure)
  show appC ([] ++ i) [l] = _
  rw [List.nil_append, appC_eq ?_, h1]
  rw [h1] at hl; simp at hl ⊢; omega
def pts : List Str → List (Str × Str)
  | [] => []
  | [x] => [([46], x)]
  | x :: y :: r => ([43], x) :: pts (y :: r)
theorem pts_len : ∀ l : List Str, (pts l).length = l.length
  | [] => rfl
  | [x] => rfl
  | x :: y :: r => by rw [pts, List.length_cons, pts_len (y :: r)]; rfl
def wr (m : journal_mark) (base : Nat) : List (Str × Str) → List Str × journal_mark
  | [] => ([], m)
  | (sg, x) :: r => (pgT m sg x :: (wr ⟨(base : Int), smm m sg x⟩ (base + 1) r).1, (wr ⟨(base : Int), smm m sg x⟩ (base + 1) r).2)
theorem wr_len : ∀ (l : List (Str × Str)) (m : journal_mark) (b : Nat), (wr m b l).1.length = l.length
  | [], _, _ => rfl
  | (sg, x) :: r, m, b => by rw [wr]; simp [wr_len r]
def fz (f : Int) : Int := if 0 < f then f - 1 else f
theorem sapp_ok {s : pagestore_Store} {text : Str} (hd : s.down_ = false) (ht : text.length ≤ 16384) (hp : s.pages_.length < 4096) (hf : s.fuse_ ≠ 0) (hf2 : s.fuse_ ≤ 9223372036854775807) :
    M.pagestore_Store_Append s text = some (((s.pages_.length : Int), 0), ({ s with pages_ := s.pages_ ++ [text], fuse_ := fz s.fuse_ } : pagestore_Store)) := by
  unfold M.pagestore_Store_Append
  rw [if_neg (by rw [hd]; decide), if_neg (by omega), if_neg (by omega)]
  unfold M.pagestore_Store_burn_i0
  rw [if_neg hf]
  have e : (if (0 : Int) < s.fuse_ then Option.bind (subC s.fuse_ (1 : Int)) fun v => some ({ s with fuse_ := v } : pagestore_Store) else some s) = some ({ s with fuse_ := fz s.fuse_ } : pagestore_Store) := by
    unfold fz
    split
    · rw [subC_eq (by omega) (by omega)]; rfl
    · rfl
  rw [e]
  simp only [Option.bind_some, M.pagestore_Store_Append_1]
  rw [appC_eq (by simp; omega)]
  rfl
theorem sapp_fail {s : pagestore_Store} {text : Str} (hd : s.down_ = false) (ht : text.length ≤ 16384) (hp : s.pages_.length < 4096) (hf : s.fuse_ = 0) :
    M.pagestore_Store_Append s text = some ((0, 16), ({ s with down_ := true } : pagestore_Store)) := by
  unfold M.pagestore_Store_Append
  rw [if_neg (by rw [hd]; decide), if_neg (by omega), if_neg (by omega)]
  unfold M.pagestore_Store_burn_i0
  rw [if_pos hf]
  rfl
theorem sapp_down {s : pagestore_Store} {text : Str} (hd : s.down_ = true) : M.pagestore_Store_Append s text = some ((0, 16), s) := by
  unfold M.pagestore_Store_Append
  rw [if_pos hd]
theorem sign_eq {cut : List Str} {i : Nat} {e : Str} {es : List Str} (h : i + (e :: es).length = cut.length) (hc : cut.length ≤ 1000000) :
    (Option.bind (subC (cut.length : Int) (1 : Int)) fun v1 => if (i : Int) = v1 then some ([46] : Str) else some ([43] : Str)) = some (if es = [] then [46] else [43]) := by
  simp only [List.length_cons] at h
  rw [subC_eq (by omega) (by omega), Option.bind_some]
  cases es with
  | nil => rw [if_pos (by simp at h; omega), if_pos rfl]
  | cons a b => rw [if_neg (by simp at h; omega), if_neg (by simp)]
theorem pts_cons (e : Str) (es : List Str) : pts (e :: es) = (if es = [] then [46] else [43], e) :: pts es := by
  cases es with
  | nil => rfl
  | cons a b => rw [pts, if_neg (by simp)]
theorem sg_len (es : List Str) : (if es = [] then ([46] : Str) else [43]).length ≤ 1 := by split <;> simp
theorem app_loop {j : journal_Journal} {cut : List Str} (hc : cut.length ≤ 1000000) : ∀ (es : List Str) (i : Nat) (m : journal_mark) (s : pagestore_Store), i + es.length = cut.length → MarkOk m → s.down_ = false → s.fuse_ ≤ 9223372036854775807 → (s.fuse_ < 0 ∨ (es.length : Int) ≤ s.fuse_) → s.pages_.length + es.length ≤ 4096 → (∀ e ∈ es, e.length ≤ 16320) →
    To (fun n => M.journal_Journal_Append_loop1 n j cut es (i : Int) m s) (.inl ((wr m s.pages_.length (pts es)).2, ({ s with pages_ := s.pages_ ++ (wr m s.pages_.length (pts es)).1, fuse_ := if s.fuse_ < 0 then s.fuse_ else s.fuse_ - es.length } : pagestore_Store)))
  | [], i, m, s, h, hm, hd, hf, hf2, hp, he => by
    simp only [M.journal_Journal_Append_loop1]
    refine To.pure.of ?_
    simp [pts, wr]
  | e :: es, i, m, s, h, hm, hd, hf, hf2, hp, he => by
    have he0 := he e List.mem_cons_self
    simp only [List.length_cons] at hp hf2
    simp only [M.journal_Journal_Append_loop1]
    rw [pts_cons, wr]
    refine To.bindS (sign_eq h hc) (To.bind (page_ok hm _ e (sg_len es) (by omega)) (To.bindS (sapp_ok hd (pgT_len hm (sg_len es) he0) (by omega) (by omega) hf) (To.neg (by simp) ?_)))
    rw [cast_succ]
    have hm2 : MarkOk ⟨(s.pages_.length : Int), smm m (if es = [] then [46] else [43]) e⟩ := ⟨by rw [show (smm m (if es = [] then ([46] : Str) else [43]) e).length = 16 from Sm_len _]; exact Nat.le_refl _, by show -1 ≤ (s.pages_.length : Int); omega, by show (s.pages_.length : Int) ≤ 4096; omega⟩
    have ih := app_loop (j := j) hc es (i + 1) ⟨(s.pages_.length : Int), smm m (if es = [] then [46] else [43]) e⟩ ({ s with pages_ := s.pages_ ++ [pgT m (if es = [] then [46] else [43]) e], fuse_ := fz s.fuse_ } : pagestore_Store) (by simp at h ⊢; omega) hm2 hd (by show fz s.fuse_ ≤ _; unfold fz; split <;> omega) (by show fz s.fuse_ < 0 ∨ _ ≤ fz s.fuse_; unfold fz; split <;> omega) (by simp; omega) (fun x hx => he x (List.mem_cons_of_mem _ hx))
    refine ih.of ?_
    simp only [List.length_append, List.length_cons, List.length_nil, Nat.zero_add, List.append_assoc, List.singleton_append]
    have ef : (if fz s.fuse_ < 0 then fz s.fuse_ else fz s.fuse_ - (es.length : Int)) = if s.fuse_ < 0 then s.fuse_ else s.fuse_ - ((es.length + 1 : Nat) : Int) := by
      by_cases h0 : s.fuse_ < 0
      · have h1 : fz s.fuse_ = s.fuse_ := by unfold fz; rw [if_neg (by omega)]
        rw [h1, if_pos h0, if_pos h0]
      · have h1 : fz s.fuse_ = s.fuse_ - 1 := by unfold fz; rw [if_pos (by omega)]
        rw [h1, if_neg (by omega), if_neg h0]; omega
    rw [ef]
theorem app_loop_fail {j : journal_Journal} {cut : List Str} (hc : cut.length ≤ 1000000) : ∀ (es : List Str) (i : Nat) (m : journal_mark) (s : pagestore_Store), i + es.length = cut.length → MarkOk m → s.down_ = false → 0 ≤ s.fuse_ → s.fuse_ < (es.length : Int) → s.pages_.length + es.length ≤ 4096 → (∀ e ∈ es, e.length ≤ 16320) →
    To (fun n => M.journal_Journal_Append_loop1 n j cut es (i : Int) m s) (.inr ((0, 16), j, ({ s with pages_ := s.pages_ ++ (wr m s.pages_.length (pts es)).1.take s.fuse_.toNat, fuse_ := 0, down_ := true } : pagestore_Store)))
  | [], i, m, s, h, hm, hd, hf, hf2, hp, he => by simp at hf2; omega
  | e :: es, i, m, s, h, hm, hd, hf, hf2, hp, he => by
    have he0 := he e List.mem_cons_self
    simp only [List.length_cons] at hp hf2
    simp only [M.journal_Journal_Append_loop1]
    rw [pts_cons, wr]
    by_cases h0 : s.fuse_ = 0
    · refine To.bindS (sign_eq h hc) (To.bind (page_ok hm _ e (sg_len es) (by omega)) (To.bindS (sapp_fail hd (pgT_len hm (sg_len es) he0) (by omega) h0) (To.pos (by simp) (To.pure.of ?_))))
      rw [h0]
      simp [h0]
    · refine To.bindS (sign_eq h hc) (To.bind (page_ok hm _ e (sg_len es) (by omega)) (To.bindS (sapp_ok hd (pgT_len hm (sg_len es) he0) (by omega) h0 (by omega)) (To.neg (by simp) ?_)))
      rw [cast_succ]
      have hm2 : MarkOk ⟨(s.pages_.length : Int), smm m (if es = [] then [46] else [43]) e⟩ := ⟨by rw [show (smm m (if es = [] then ([46] : Str) else [43]) e).length = 16 from Sm_len _]; exact Nat.le_refl _, by show -1 ≤ (s.pages_.length : Int); omega, by show (s.pages_.length : Int) ≤ 4096; omega⟩
      have hfz : fz s.fuse_ = s.fuse_ - 1 := by unfold fz; rw [if_pos (by omega)]
      have ih := app_loop_fail (j := j) hc es (i + 1) ⟨(s.pages_.length : Int), smm m (if es = [] then [46] else [43]) e⟩ ({ s with pages_ := s.pages_ ++ [pgT m (if es = [] then [46] else [43]) e], fuse_ := fz s.fuse_ } : pagestore_Store) (by simp at h ⊢; omega) hm2 hd (by show 0 ≤ fz s.fuse_; omega) (by show fz s.fuse_ < _; omega) (by simp; omega) (fun x hx => he x (List.mem_cons_of_mem _ hx))
      refine ih.of ?_
      have et : s.fuse_.toNat = (s.fuse_ - 1).toNat + 1 := by omega
      simp only [List.length_append, List.length_cons, List.length_nil, Nat.zero_add, List.append_assoc, List.singleton_append, hfz]
      rw [et, List.take_succ_cons]
theorem jappend_ok {j : journal_Journal} {s : pagestore_Store} {t : Str} (ht : t.length ≤ 261120) (hj : j.texts_.length ≤ 1000000) (hm : MarkOk j.last_) (hd : s.down_ = false) (hf : s.fuse_ ≤ 9223372036854775807) (hf2 : s.fuse_ < 0 ∨ ((cutP t).length : Int) ≤ s.fuse_) (hp : s.pages_.length + (cutP t).length ≤ 4096) :
    To (fun n => M.journal_Journal_Append n j s t) (((j.texts_.length : Int), 0), ({ j with texts_ := j.texts_ ++ [t], last_ := (wr j.last_ s.pages_.length (pts (cutP t))).2 } : journal_Journal),
      ({ s with pages_ := s.pages_ ++ (wr j.last_ s.pages_.length (pts (cutP t))).1, fuse_ := if s.fuse_ < 0 then s.fuse_ else s.fuse_ - (cutP t).length } : pagestore_Store)) := by
  have hl := cutP_len t
  have h := app_loop (j := j) (cut := cutP t) (by omega) (cutP t) 0 j.last_ s (by simp) hm hd hf hf2 hp (cutP_small t)
  simp only [M.journal_Journal_Append]
  refine To.bind (cut_ok t ht) (To.neg (by omega) (To.bind h ?_))
  refine To.bindS (appC_eq (by simp; omega)) (To.bindS (a := (j.texts_.length : Int)) ?_ (To.pure.of rfl))
  rw [subC_eq (by simp <;> omega) (by simp <;> omega)]
  congr 1; simp
theorem jappend_fail {j : journal_Journal} {s : pagestore_Store} {t : Str} (ht : t.length ≤ 261120) (hm : MarkOk j.last_) (hd : s.down_ = false) (hf : 0 ≤ s.fuse_) (hf2 : s.fuse_ < ((cutP t).length : Int)) (hp : s.pages_.length + (cutP t).length ≤ 4096) :
    To (fun n => M.journal_Journal_Append n j s t) ((0, 16), j, ({ s with pages_ := s.pages_ ++ (wr j.last_ s.pages_.length (pts (cutP t))).1.take s.fuse_.toNat, fuse_ := 0, down_ := true } : pagestore_Store)) := by
  have hl := cutP_len t
  have h := app_loop_fail (j := j) (cut := cutP t) (by omega) (cutP t) 0 j.last_ s (by simp) hm hd hf hf2 hp (cutP_small t)
  simp only [M.journal_Journal_Append]
  exact To.bind (cut_ok t ht) (To.neg (by omega) (To.bind h To.pure))
theorem jappend_down {j : journal_Journal} {s : pagestore_Store} {t : Str} (ht : t.length ≤ 261120) (hm : MarkOk j.last_) (hd : s.down_ = true) : To (fun n => M.journal_Journal_Append n j s t) ((0, 16), j, s) := by
  have hl := cutP_len t
  obtain ⟨e, es, hc⟩ : ∃ e es, cutP t = e :: es := by
    cases h : cutP t with
    | nil => exact absurd h (cutP_ne t)
    | cons e es => exact ⟨e, es, rfl⟩
  have he := cutP_small t e (by rw [hc]; exact List.mem_cons_self)
  have h : To (fun n => M.journal_Journal_Append_loop1 n j (cutP t) (cutP t) (0 : Int) j.last_ s) (.inr ((0, 16), j, s)) := by
    have hq : (cutP t).length = (e :: es).length := by rw [hc]
    generalize hcc : cutP t = cc at hq hl
    rw [hcc] at hc
    rw [show M.journal_Journal_Append_loop1 = M.journal_Journal_Append_loop1 from rfl]
    subst hc
    simp only [M.journal_Journal_Append_loop1]
    exact To.bindS (sign_eq (i := 0) (e := e) (by simp) (by omega)) (To.bind (page_ok hm _ e (sg_len es) (by omega)) (To.bindS (sapp_down hd) (To.pos (by simp) To.pure)))
  simp only [M.journal_Journal_Append]
  exact To.bind (cut_ok t ht) (To.neg (by omega) (To.bind h To.pure))
theorem commit_ok {j : journal_Journal} {s : pagestore_Store} (hj : j.texts_ ≠ []) (hd : s.down_ = false) (hf : s.fuse_ ≠ 0) (hf2 : s.fuse_ ≤ 9223372036854775807) (h0 : 0 ≤ j.last_.page_) (h1 : j.last_.page_ < (s.pages_.length : Int)) :
    M.journal_Journal_Commit j s = some (0, ({ j with lasting_ := (j.texts_.length : Int) } : journal_Journal), ({ s with root_ := j.last_.page_, lasting_ := (s.pages_.length : Int), fuse_ := fz s.fuse_ } : pagestore_Store)) := by
  have hl : (j.texts_.length : Int) ≠ 0 := by
    have := List.length_pos_iff.2 hj; omega
  unfold M.journal_Journal_Commit
  rw [if_neg hl]
  unfold M.pagestore_Store_SetRoot M.pagestore_Store_there
  rw [if_neg (by rw [hd]; decide), if_pos h0]
  simp only [Option.bind_some, h1, decide_true]
  rw [if_neg (by decide)]
  unfold M.pagestore_Store_burn_i1
  rw [if_neg hf]
  have e : (if (0 : Int) < s.fuse_ then Option.bind (subC s.fuse_ (1 : Int)) fun v => some ({ s with fuse_ := v } : pagestore_Store) else some s) = some ({ s with fuse_ := fz s.fuse_ } : pagestore_Store) := by
    unfold fz
    split
    · rw [subC_eq (by omega) (by omega)]; rfl
    · rfl
  rw [e]
  rfl
theorem commit_none {j : journal_Journal} {s : pagestore_Store} (hj : j.texts_ = []) : M.journal_Journal_Commit j s = some (0, j, s) := by
  unfold M.journal_Journal_Commit
  rw [if_pos (by rw [hj]; rfl)]
theorem commit_fail {j : journal_Journal} {s : pagestore_Store} (hj : j.texts_ ≠ []) (hd : s.down_ = false) (hf : s.fuse_ = 0) (h0 : 0 ≤ j.last_.page_) (h1 : j.last_.page_ < (s.pages_.length : Int)) :
    M.journal_Journal_Commit j s = some (16, j, ({ s with down_ := true } : pagestore_Store)) := by
  have hl : (j.texts_.length : Int) ≠ 0 := by
    have := List.length_pos_iff.2 hj; omega
  unfold M.journal_Journal_Commit
  rw [if_neg hl]
  unfold M.pagestore_Store_SetRoot M.pagestore_Store_there
  rw [if_neg (by rw [hd]; decide), if_pos h0]
  simp only [Option.bind_some, h1, decide_true]
  rw [if_neg (by decide)]
  unfold M.pagestore_Store_burn_i1
  rw [if_pos hf]
  rfl
theorem commit_down {j : journal_Journal} {s : pagestore_Store} (hj : j.texts_ ≠ []) (hd : s.down_ = true) : M.journal_Journal_Commit j s = some (16, j, s) := by
  have hl : (j.texts_.length : Int) ≠ 0 := by
    have := List.length_pos_iff.2 hj; omega
  unfold M.journal_Journal_Commit
  rw [if_neg hl]
  unfold M.pagestore_Store_SetRoot
  rw [if_pos hd]
  rfl
end Go.Proofs.YtkobngongonplaaGreatDoor
/-
  Chains of pages, and how they are read.
-/
set_option linter.unusedVariables false
set_option linter.unusedSimpArgs false
namespace Go.Proofs.YtkobngongonplaaGreatDoor
open Go Go.Dec
def m0 : journal_mark := ⟨-1, []⟩
inductive Ch (pages : List Str) : journal_mark → List journal_read → Prop
  | nil : Ch pages m0 []
  | snoc (m : journal_mark) (rs : List journal_read) (k : Nat) (sg x : Str) : Ch pages m rs → m.page_ < (k : Int) → pages[k]? = some (pgT m sg x) → (sg = [43] ∨ sg = [46]) → x.length ≤ 16320 → k < 4096 →
    Ch pages ⟨(k : Int), smm m sg x⟩ (rs ++ [⟨(k : Int), m.page_, sg, x, pgT m sg x⟩])
theorem Ch.ok {pages : List Str} {m : journal_mark} {rs : List journal_read} (h : Ch pages m rs) : MarkOk m := by
  cases h with
  | nil => exact ⟨by simp [m0], by simp [m0], by simp [m0]⟩
  | snoc m rs k sg x h1 h2 h3 h4 h5 h6 => exact ⟨by rw [show (smm m sg x).length = 16 from Sm_len _]; exact Nat.le_refl _, by show -1 ≤ (k : Int); omega, by show (k : Int) ≤ 4096; omega⟩
theorem Ch.mono {pages : List Str} {m : journal_mark} {rs : List journal_read} (h : Ch pages m rs) : ∀ {q : List Str}, (∀ (k : Nat), (k : Int) ≤ m.page_ → q[k]? = pages[k]?) → Ch q m rs := by
  induction h with
  | nil => intro q _; exact .nil
  | snoc m rs k sg x h1 h2 h3 h4 h5 h6 ih =>
    intro q hq
    exact .snoc m rs k sg x (ih fun i hi => hq i (by show (i : Int) ≤ (k : Int); omega)) h2 (by rw [hq k (Int.le_refl _)]; exact h3) h4 h5 h6
theorem Ch.lt {pages : List Str} {m : journal_mark} {rs : List journal_read} (h : Ch pages m rs) : m.page_ < (pages.length : Int) := by
  cases h with
  | nil => simp [m0]; omega
  | snoc m rs k sg x h1 h2 h3 h4 h5 h6 =>
    have := (List.getElem?_eq_some_iff.1 h3).1
    show (k : Int) < _; omega
theorem Ch.app {pages : List Str} {m : journal_mark} {rs : List journal_read} (h : Ch pages m rs) (q : List Str) : Ch (pages ++ q) m rs :=
  h.mono fun k hk => by
    have := h.lt
    rw [List.getElem?_append_left (by omega)]
theorem Ch.take {pages : List Str} {m : journal_mark} {rs : List journal_read} (h : Ch pages m rs) {j : Nat} (hj : m.page_ < (j : Int)) : Ch (pages.take j) m rs :=
  h.mono fun k hk => by rw [List.getElem?_take, if_pos (by omega)]
def sgs (rs : List journal_read) : List (Str × Str) := rs.map fun r => (r.sign_, r.text_)
theorem pts_good : ∀ (es : List Str), (∀ e ∈ es, e.length ≤ 16320) → ∀ p ∈ pts es, (p.1 = [43] ∨ p.1 = [46]) ∧ p.2.length ≤ 16320
  | [], _, p, hp => by cases hp
  | e :: es, he, p, hp => by
    rw [pts_cons] at hp
    rcases List.mem_cons.1 hp with rfl | hp
    · refine ⟨?_, he e List.mem_cons_self⟩
      show (if es = [] then ([46] : Str) else [43]) = [43] ∨ _
      split
      · exact .inr rfl
      · exact .inl rfl
    · exact pts_good es (fun x hx => he x (List.mem_cons_of_mem _ hx)) p hp
theorem Ch.wr : ∀ (l : List (Str × Str)) {pages : List Str} {m : journal_mark} {rs : List journal_read}, Ch pages m rs → (∀ p ∈ l, (p.1 = [43] ∨ p.1 = [46]) ∧ p.2.length ≤ 16320) → pages.length + l.length ≤ 4096 →
    ∃ rs', Ch (pages ++ (wr m pages.length l).1) (wr m pages.length l).2 rs' ∧ sgs rs' = sgs rs ++ l
  | [], pages, m, rs, h, hl, hp => ⟨rs, by simpa [Go.Proofs.YtkobngongonplaaGreatDoor.wr] using h, by simp⟩
  | (sg, x) :: r, pages, m, rs, h, hl, hp => by
    have h0 := hl (sg, x) List.mem_cons_self
    have hlt := h.lt
    simp only [List.length_cons] at hp
    have h2 : Ch (pages ++ [pgT m sg x]) ⟨(pages.length : Int), smm m sg x⟩ (rs ++ [⟨(pages.length : Int), m.page_, sg, x, pgT m sg x⟩]) :=
      .snoc m rs pages.length sg x (h.app _) hlt (by simp) h0.1 h0.2 (by omega)
    obtain ⟨rs', q1, q2⟩ := Ch.wr r h2 (fun p hp => hl p (List.mem_cons_of_mem _ hp)) (by simp; omega)
    refine ⟨rs', ?_, by rw [q2]; simp [sgs]⟩
    rw [Go.Proofs.YtkobngongonplaaGreatDoor.wr]
    simpa using q1
theorem read_ok {s : pagestore_Store} {k : Nat} {p : Str} (hd : s.down_ = false) (h : s.pages_[k]? = some p) : M.pagestore_Store_Read s (k : Int) = some (p, 0) := by
  have hk := (List.getElem?_eq_some_iff.1 h).1
  unfold M.pagestore_Store_Read M.pagestore_Store_there
  rw [if_neg (by rw [hd]; decide), if_pos (by omega)]
  have : (decide ((k : Int) < (s.pages_.length : Int))) = true := by simpa using hk
  simp only [Option.bind_some, this]
  rw [if_neg (by decide), idx_nat, h]
  rfl
theorem way_loop {s : pagestore_Store} (hd : s.down_ = false) {m : journal_mark} {rs : List journal_read} (h : Ch s.pages_ m rs) : ∀ out : List journal_read, out.length + rs.length ≤ 1000000 → To (fun n => M.journal_way_loop1 s n out m.page_) (.inl (out ++ rs.reverse)) := by
  induction h with
  | nil =>
    intro out _
    refine To.succ ?_
    simp only [M.journal_way_loop1]
    exact To.neg (by simp [m0]) (To.pure.of (by simp))
  | snoc m rs k sg x h1 h2 h3 h4 h5 h6 ih =>
    intro out ho
    refine To.succ ?_
    simp only [M.journal_way_loop1]
    have ho' : out.length + (rs.length + 1) ≤ 1000000 := by simpa using ho
    refine To.pos (by show ¬ (k : Int) = -1; omega) (To.bindS (read_ok hd h3) (To.neg (by simp) (To.bindS (open_ok h1.ok _ h4 x (by omega)) ?_)))
    refine To.bindS (a := false) ?_ (To.neg (by simp) (To.bindS (appC_eq (by simp; omega)) ((ih (out ++ [_]) (by simp; omega)).of (by simp))))
    rw [if_neg (by simp)]
    congr 1
    exact decide_eq_false (by show ¬ (k : Int) ≤ m.page_; omega)
theorem way_ok {s : pagestore_Store} (hd : s.down_ = false) {m : journal_mark} {rs : List journal_read} (h : Ch s.pages_ m rs) (hr : s.root_ = m.page_) (hn : rs.length ≤ 1000000) : To (fun n => M.journal_way n s) (rs, true) := by
  simp only [M.journal_way, M.pagestore_Store_Root]
  refine To.bindS (a := m.page_) (by rw [hr]) (To.bind (way_loop hd h [] (by simpa using hn)) (To.pure.of (by simp)))
inductive Fw : journal_mark → List journal_read → journal_mark → Prop
  | nil (m : journal_mark) : Fw m [] m
  | cons (m m' : journal_mark) (r : journal_read) (rs : List journal_read) : MarkOk m → r.whole_ = pgT m r.sign_ r.text_ → (r.sign_ = [43] ∨ r.sign_ = [46]) → r.text_.length ≤ 16320 → Fw ⟨r.at_, smm m r.sign_ r.text_⟩ rs m' → Fw m (r :: rs) m'
theorem Fw.snoc {m m' : journal_mark} {rs : List journal_read} (h : Fw m rs m') (r : journal_read) (h1 : MarkOk m') (h2 : r.whole_ = pgT m' r.sign_ r.text_) (h3 : r.sign_ = [43] ∨ r.sign_ = [46]) (h4 : r.text_.length ≤ 16320) : Fw m (rs ++ [r]) ⟨r.at_, smm m' r.sign_ r.text_⟩ := by
  induction h with
  | nil m => exact .cons _ _ _ _ h1 h2 h3 h4 (.nil _)
  | cons m m' r' rs q1 q2 q3 q4 q5 ih => exact .cons _ _ _ _ q1 q2 q3 q4 (ih h1 h2)
theorem Ch.fw {pages : List Str} {m : journal_mark} {rs : List journal_read} (h : Ch pages m rs) : Fw m0 rs m := by
  induction h with
  | nil => exact .nil _
  | snoc m rs k sg x h1 h2 h3 h4 h5 h6 ih => exact ih.snoc ⟨(k : Int), m.page_, sg, x, pgT m sg x⟩ h1.ok rfl h4 h5
def lens (l : List Str) : Nat := l.flatten.length
theorem lens_cons (e : Str) (l : List Str) : lens (e :: l) = e.length + lens l := by simp [lens]
theorem join1 : ∀ (es : List Str) (k : Nat), k + lens es ≤ 1000000000 → M.strings_Join_loop1 es (k : Int) = some ((k + lens es : Nat) : Int)
  | [], k, h => rfl
  | e :: es, k, h => by
    rw [lens_cons] at h ⊢
    simp only [M.strings_Join_loop1]
    rw [subC_eq (by omega) (by omega), Option.bind_some, if_neg (by omega), addC_eq (by omega) (by omega), Option.bind_some]
    have := join1 es (k + e.length) (by omega)
    rw [show (k : Int) + (e.length : Int) = ((k + e.length : Nat) : Int) by omega, this]
    congr 2; omega
theorem join2 : ∀ (es : List Str) (b : Str), b.length + lens es ≤ 1000000000 → M.strings_Join_loop2 [] es b = some (b ++ es.flatten)
  | [], b, h => by simp [M.strings_Join_loop2]
  | e :: es, b, h => by
    rw [lens_cons] at h
    simp only [M.strings_Join_loop2]
    rw [appC_eq (by simp; omega), Option.bind_some, appC_eq (by simp; omega), Option.bind_some, join2 es _ (by simp; omega)]
    simp
theorem join_ok (l : List Str) (h : lens l ≤ 1000000000) : M.strings_Join l [] = some l.flatten := by
  match l with
  | [] => rfl
  | [x] => simp [M.strings_Join, idx]
  | x :: y :: r =>
    have hl := lens_cons x (y :: r)
    have h1 := join1 (x :: y :: r) 0 (by omega)
    have h2 := join2 (y :: r) x (by omega)
    unfold M.strings_Join
    rw [if_neg (by simp; omega), if_neg (by simp; omega)]
    rw [if_neg (by simp)]
    simp only [Option.bind_some]
    rw [show (0 : Int) = ((0 : Nat) : Int) from rfl, h1]
    simp only [Option.bind_some]
    have hg : growC ((0 + lens (x :: y :: r) : Nat) : Int) = some () := by unfold growC; rw [if_pos ⟨by omega, by omega⟩]
    have hi : idx (x :: y :: r) ((0 : Nat) : Int) = some x := by simp [idx]
    have hs : slcLo (x :: y :: r) 1 = some (y :: r) := by unfold slcLo; rw [if_pos ⟨by decide, by simp; omega⟩]; rfl
    rw [hg, Option.bind_some, hi, Option.bind_some, appC_eq (by simp; rw [hl] at h; omega), Option.bind_some, hs, Option.bind_some, List.nil_append, h2]
    simp
theorem equal_ok (l : List Str) : To (fun n => M.slices_Equal_string_string n l l) true := by
  have hl : ∀ (xs : List Str) (i : Nat), l.drop i = xs → To (fun n => M.slices_Equal_string_string_loop1 l l n (i : Int)) (.inl ()) := by
    intro xs
    induction xs with
    | nil => intro i hx; refine To.succ ?_; simp only [M.slices_Equal_string_string_loop1]; exact To.neg (drop_end hx) To.pure
    | cons x xs ih =>
      intro i hx
      refine To.succ ?_
      simp only [M.slices_Equal_string_string_loop1]
      rw [cast_succ]
      exact To.pos (drop_lt hx) (To.bindS (drop_idx hx) (To.bindS (drop_idx hx) (To.neg (by simp) (ih (i + 1) (drop_next hx)))))
  simp only [M.slices_Equal_string_string]
  exact To.neg (by simp) (To.bind (hl l 0 rfl) To.pure)
theorem load_block {t : Str} (ht : t.length ≤ 261120) {v : journal_mark} {m' : journal_mark} {rest : List journal_read} {r : (List Str × List Str × journal_mark × journal_mark) ⊕ (List Str × journal_mark × Int)} {texts : List Str} (hx : texts.length ≤ 1000000) :
    ∀ (es : List Str) (ps0 : List Str) (block : List journal_read) (m : journal_mark), es ≠ [] → ps0 ++ es = cutP t → sgs block = pts es → Fw m (block ++ rest) m' →
      (∀ m1, Fw m1 rest m' → To (fun n => M.journal_load_loop1 n rest (texts ++ [t]) [] v m1) r) → To (fun n => M.journal_load_loop1 n (block ++ rest) texts ps0 v m) r
  | [], _, _, _, h, _, _, _, _ => absurd rfl h
  | e :: es, ps0, block, m, _, hc, hb, hf, hk => by
    rw [pts_cons] at hb
    obtain ⟨b, bs, rfl⟩ : ∃ b bs, block = b :: bs := by
      cases block with
      | nil => cases hb
      | cons b bs => exact ⟨b, bs, rfl⟩
    have hb' : (b.sign_, b.text_) = (if es = [] then [46] else [43], e) ∧ sgs bs = pts es := by
      simpa [sgs] using hb
    have hs : b.sign_ = if es = [] then [46] else [43] := (Prod.mk.inj hb'.1).1
    have hte : b.text_ = e := (Prod.mk.inj hb'.1).2
    rw [List.cons_append] at hf ⊢
    cases hf with
    | cons _ _ _ _ q1 q2 q3 q4 q5 =>
    simp only [M.journal_load_loop1]
    have hlen := cutP_len t
    have hps : ps0.length + (es.length + 1) = (cutP t).length := by rw [← hc]; simp
    refine To.bind (page_ok q1 _ _ (by rcases q3 with h | h <;> rw [h] <;> simp) (by omega)) (To.neg (by rw [q2]; simp) (To.bindS (appC_eq (by simp; omega)) ?_))
    by_cases hes : es = []
    · subst hes
      have hs2 : b.sign_ = [46] := by rw [hs, if_pos rfl]
      have hbs : bs = [] := by
        have := hb'.2
        cases bs with
        | nil => rfl
        | cons _ _ => cases this
      subst hbs
      have hall : ps0 ++ [b.text_] = cutP t := by rw [hte]; exact hc
      have hfl := cutP_flat t
      refine To.neg (by rw [hs2]; decide) ?_
      rw [hall]
      refine To.bindS (a := t) (by rw [join_ok _ (by unfold lens; rw [hfl]; omega), hfl]) (To.bind (cut_ok t ht) (To.bind (equal_ok _) (To.neg (by decide) (To.bindS (appC_eq (by simp; omega)) ?_))))
      exact hk _ q5
    · have hs2 : b.sign_ = [43] := by rw [hs, if_neg hes]
      refine To.pos (by rw [hs2]; decide) ?_
      exact load_block ht hx es (ps0 ++ [b.text_]) bs _ hes (by rw [hte, List.append_assoc]; exact hc) hb'.2 q5 hk
theorem sgs_split {a b : List (Str × Str)} : ∀ {rs : List journal_read}, sgs rs = a ++ b → ∃ r1 r2, rs = r1 ++ r2 ∧ sgs r1 = a ∧ sgs r2 = b := by
  intro rs h
  refine ⟨rs.take a.length, rs.drop a.length, (List.take_append_drop _ _).symm, ?_, ?_⟩
  · unfold sgs at *
    rw [List.map_take, h, List.take_left']
    rfl
  · unfold sgs at *
    rw [List.map_drop, h, List.drop_left']
    rfl
def prt (ts : List Str) : List (Str × Str) := ts.flatMap fun t => pts (cutP t)
theorem prt_app (a b : List Str) : prt (a ++ b) = prt a ++ prt b := by simp [prt]
theorem prt_one (t : Str) : prt [t] = pts (cutP t) := by simp [prt]
theorem load_loop {v : journal_mark} {m' : journal_mark} : ∀ (ts : List Str) (rs : List journal_read) (texts : List Str) (m : journal_mark), (∀ t ∈ ts, t.length ≤ 261120) → texts.length + ts.length ≤ 1000000 → sgs rs = prt ts → Fw m rs m' →
    To (fun n => M.journal_load_loop1 n rs texts [] v m) (.inl (texts ++ ts, [], v, m'))
  | [], rs, texts, m, _, _, hs, hf => by
    have : rs = [] := by
      cases rs with
      | nil => rfl
      | cons _ _ => cases hs
    subst this
    cases hf
    simp only [M.journal_load_loop1]
    exact To.pure.of (by simp)
  | t :: ts, rs, texts, m, ht, hn, hs, hf => by
    obtain ⟨r1, r2, rfl, h1, h2⟩ := sgs_split (a := pts (cutP t)) (b := prt ts) (rs := rs) (by rw [hs]; simp [prt])
    simp only [List.length_cons] at hn
    refine load_block (ht t List.mem_cons_self) (by omega) (cutP t) [] r1 m (cutP_ne t) rfl h1 hf fun m1 hf1 => ?_
    exact (load_loop ts r2 (texts ++ [t]) m1 (fun x hx => ht x (List.mem_cons_of_mem _ hx)) (by simp; omega) h2 hf1).of (by simp)
structure Holds (pages : List Str) (m : journal_mark) (ts : List Str) : Prop where
  ch : ∃ rs, Ch pages m rs ∧ sgs rs = prt ts
  small : ∀ t ∈ ts, t.length ≤ 261120
theorem prt_len (ts : List Str) (h : ∀ t ∈ ts, t.length ≤ 261120) : (prt ts).length ≤ ts.length * 16 := by
  induction ts with
  | nil => simp [prt]
  | cons t ts ih =>
    have := ih fun x hx => h x (List.mem_cons_of_mem _ hx)
    have h2 := h t List.mem_cons_self
    have h3 := cutP_len t
    rw [show t :: ts = [t] ++ ts from rfl, prt_app, prt_one, List.length_append, pts_len]
    simp; omega
theorem load_ok {s : pagestore_Store} {m : journal_mark} {ts : List Str} (hd : s.down_ = false) (hr : s.root_ = m.page_) (h : Holds s.pages_ m ts) (hn : ts.length ≤ 10000) : To (fun n => M.journal_load n s) (ts, m, 0) := by
  obtain ⟨rs, hc, hs⟩ := h.ch
  have hrl : rs.length ≤ 1000000 := by
    have h1 : rs.length = (prt ts).length := by rw [← hs]; simp [sgs]
    have := prt_len ts h.small; omega
  simp only [M.journal_load, M.pagestore_Store_Failed]
  refine To.bindS rfl (To.neg (by rw [hd]; decide) (To.bind (way_ok hd hc hr hrl) (To.neg (by simp) (To.bind (load_loop ts rs [] m0 h.small (by simp; omega) hs hc.fw) (To.neg (by simp) (To.pure.of (by simp)))))))
theorem open_store {s : pagestore_Store} {m : journal_mark} {ts : List Str} (hd : s.down_ = false) (hr : s.root_ = m.page_) (h : Holds s.pages_ m ts) (hn : ts.length ≤ 10000) : To (fun n => M.journal_Open n s) (some (⟨(), ts, (ts.length : Int), m⟩ : journal_Journal), 0) := by
  simp only [M.journal_Open]
  exact To.bind (load_ok hd hr h hn) (To.neg (by simp) To.pure)
theorem Holds.nil : Holds [] m0 [] := ⟨⟨[], .nil, rfl⟩, fun t ht => by cases ht⟩
theorem Holds.add {pages : List Str} {m : journal_mark} {ts : List Str} (h : Holds pages m ts) {t : Str} (ht : t.length ≤ 261120) (hp : pages.length + (cutP t).length ≤ 4096) : Holds (pages ++ (wr m pages.length (pts (cutP t))).1) (wr m pages.length (pts (cutP t))).2 (ts ++ [t]) := by
  obtain ⟨rs, hc, hs⟩ := h.ch
  obtain ⟨rs', h1, h2⟩ := hc.wr (pts (cutP t)) (pts_good _ (cutP_small t)) (by rw [pts_len]; exact hp)
  refine ⟨⟨rs', h1, by rw [h2, hs, prt_app, prt_one]⟩, fun x hx => ?_⟩
  rcases List.mem_append.1 hx with hx | hx
  · exact h.small x hx
  · rw [List.mem_singleton.1 hx]; exact ht
theorem Holds.ok {pages : List Str} {m : journal_mark} {ts : List Str} (h : Holds pages m ts) : MarkOk m := let ⟨_, hc, _⟩ := h.ch; hc.ok
theorem Holds.lt {pages : List Str} {m : journal_mark} {ts : List Str} (h : Holds pages m ts) : m.page_ < (pages.length : Int) := let ⟨_, hc, _⟩ := h.ch; hc.lt
theorem Holds.app {pages : List Str} {m : journal_mark} {ts : List Str} (h : Holds pages m ts) (q : List Str) : Holds (pages ++ q) m ts := let ⟨rs, hc, hs⟩ := h.ch; ⟨⟨rs, hc.app q, hs⟩, h.small⟩
theorem Holds.take {pages : List Str} {m : journal_mark} {ts : List Str} (h : Holds pages m ts) {j : Nat} (hj : m.page_ < (j : Int)) : Holds (pages.take j) m ts := let ⟨rs, hc, hs⟩ := h.ch; ⟨⟨rs, hc.take hj, hs⟩, h.small⟩
theorem wr_last : ∀ (es : List Str), es ≠ [] → ∀ (m : journal_mark) (b : Nat), (wr m b (pts es)).2.page_ = ((b + es.length - 1 : Nat) : Int)
  | [], h, _, _ => absurd rfl h
  | [e], _, m, b => by simp [pts, wr]
  | e :: f :: es, _, m, b => by
    rw [pts_cons, wr]
    rw [wr_last (f :: es) (by simp) _ (b + 1)]
    congr 1; simp; omega
end Go.Proofs.YtkobngongonplaaGreatDoor
