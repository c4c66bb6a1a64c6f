import Derived.Test.YtkobngongonplaaDoorMdl
import Derived.Test.YtkobngongonplaaDoorEv
import Derived.KernelRfl
import Derived.Test.YtkobngongonplaaDoorMod
/-
  The digest: what the code computes is a total function whose values have 16 bytes, all of them hexadecimal digits.
-/
set_option linter.unusedVariables false
set_option linter.unusedSimpArgs false
namespace Go.Proofs.YtkobngongonplaaDoor
open Go Go.Dec
theorem wrapU_nat (x : Int) : ∃ u : Nat, u < 18446744073709551616 ∧ wrapU x = (u : Int) := by
  unfold wrapU
  exact ⟨(x % 18446744073709551616).toNat, by omega, by omega⟩
theorem wrapU_id {u : Nat} (h : u < 18446744073709551616) : wrapU (u : Int) = (u : Int) := by unfold wrapU; omega
theorem andU_nat {u v : Nat} (hu : u < 18446744073709551616) (hv : v < 18446744073709551616) : andU (u : Int) (v : Int) = ((u &&& v : Nat) : Int) := by
  have h1 : ((u : Int) % 18446744073709551616).toNat = u := by omega
  have h2 : ((v : Int) % 18446744073709551616).toNat = v := by omega
  unfold andU
  rw [h1, h2]
  exact wrapU_id (Nat.lt_of_le_of_lt Nat.and_le_left hu)
theorem shrU_nat (u n : Nat) (hn : n ≤ 64) : shrU (u : Int) (n : Int) = ((u / 2 ^ n : Nat) : Int) := by
  unfold shrU
  rw [Int.toNat_natCast, Nat.min_eq_left hn, Int.fdiv_eq_ediv_of_nonneg _ (Int.le_of_lt (Int.pow_pos (by decide)))]
  push_cast
  rfl
theorem sum_loop : ∀ (l : List Int) (h : Nat), h < 18446744073709551616 → ∃ u : Nat, u < 18446744073709551616 ∧ M.digest_Sum_loop1 l (h : Int) = some (u : Int)
  | [], h, hh => ⟨h, hh, rfl⟩
  | e :: es, h, hh => by
    simp only [M.digest_Sum_loop1]
    obtain ⟨u, hu, e1⟩ : ∃ u : Nat, u < 18446744073709551616 ∧ xorU (wrapU ((wrapU ((wrapU ((h : Int) + (wrapU e))) + (1 : Int))) * (10723151780598845931 : Int))) (shrU (wrapU ((wrapU ((wrapU ((h : Int) + (wrapU e))) + (1 : Int))) * (10723151780598845931 : Int))) (31 : Int)) = (u : Int) := wrapU_nat _
    rw [e1]
    exact sum_loop es u hu
def hsh (s : Str) : Nat := ((M.digest_Sum_loop1 (bytesOf s) (11400714819323198485 : Int)).getD 0).toNat
theorem hsh_eq (s : Str) : M.digest_Sum_loop1 (bytesOf s) (11400714819323198485 : Int) = some (hsh s : Int) ∧ hsh s < 18446744073709551616 := by
  obtain ⟨u, hu, e⟩ := sum_loop (bytesOf s) 11400714819323198485 (by decide)
  have e : M.digest_Sum_loop1 (bytesOf s) (11400714819323198485 : Int) = some (u : Int) := e
  unfold hsh
  rw [e]
  exact ⟨by simp, by simpa using hu⟩
def hexL : Str := [48, 49, 50, 51, 52, 53, 54, 55, 56, 57, 97, 98, 99, 100, 101, 102, 103, 104, 105, 106, 107, 108, 109, 110, 111, 112, 113, 114, 115, 116, 117, 118, 119, 120, 121, 122]
def dg (k : Nat) : UInt8 := hexL.getD k 0
theorem dg_idx {k : Nat} (h : k < 36) : idx hexL (k : Int) = some (dg k) := by
  rw [idx_nat]
  have : k < hexL.length := h
  rw [List.getElem?_eq_getElem this]
  simp [dg, List.getD, List.getElem?_eq_getElem this]
theorem dg_hex {k : Nat} (h : k < 16) : dg k ≠ 32 ∧ dg k ≠ 10 := by
  have : ∀ k : Fin 16, dg k ≠ 32 ∧ dg k ≠ 10 := by decide
  exact this ⟨k, h⟩
def hexm (u : Nat) : Str := if h : u < 16 then [dg u] else hexm (u / 16) ++ [dg (u % 16)]
termination_by u
decreasing_by omega
theorem hexm_lt {u : Nat} (h : u < 16) : hexm u = [dg u] := by rw [hexm, dif_pos h]
theorem hexm_ge {u : Nat} (h : ¬ u < 16) : hexm u = hexm (u / 16) ++ [dg (u % 16)] := by rw [hexm, dif_neg h]
theorem hexm_len : ∀ (k u : Nat), u < 16 ^ (k + 1) → (hexm u).length ≤ k + 1
  | 0, u, h => by rw [hexm_lt (by simpa using h)]; simp
  | k + 1, u, h => by
    by_cases hu : u < 16
    · rw [hexm_lt hu]; simp
    · rw [hexm_ge hu, List.length_append]
      have := hexm_len k (u / 16) (by rw [Nat.div_lt_iff_lt_mul (by decide)]; rw [Nat.pow_succ] at h; exact h)
      simp; omega
theorem hexm_hex (k : Nat) : ∀ (u : Nat), u < 16 ^ (k + 1) → ∀ c ∈ hexm u, c ≠ 32 ∧ c ≠ 10 := by
  induction k with
  | zero =>
    intro u h c hc
    have hu : u < 16 := by simpa using h
    rw [hexm_lt hu] at hc
    rw [List.mem_singleton.1 hc]; exact dg_hex hu
  | succ k ih =>
    intro u h c hc
    by_cases hu : u < 16
    · rw [hexm_lt hu] at hc
      rw [List.mem_singleton.1 hc]; exact dg_hex hu
    · rw [hexm_ge hu] at hc
      rcases List.mem_append.1 hc with hc | hc
      · exact ih (u / 16) (by rw [Nat.div_lt_iff_lt_mul (by decide)]; rw [Nat.pow_succ] at h; exact h) c hc
      · rw [List.mem_singleton.1 hc]; exact dg_hex (Nat.mod_lt _ (by decide))
def ints (l : Str) : List Int := l.map fun b : UInt8 => (b.toNat : Int)
theorem fb_exit {u i : Nat} {a : List Int} (hu : u < 16) : To (fun n => M.internal_strconv_formatBits_loop1 16 4 n (u : Int) (i : Int) a) ((u : Int), (i : Int), a) := by
  refine To.succ ?_
  simp only [M.internal_strconv_formatBits_loop1]
  exact To.neg (by show ¬ (16 : Int) ≤ _; omega) To.pure
theorem fb_loop (k : Nat) : ∀ (u i : Nat) (a : List Int), u < 16 ^ (k + 1) → u < 18446744073709551616 → a.length = 65 → k < i → i ≤ 65 →
    ∃ (u' i' : Nat) (a' : List Int), To (fun n => M.internal_strconv_formatBits_loop1 16 4 n (u : Int) (i : Int) a) ((u' : Int), (i' : Int), a') ∧ u' < 16 ∧ 0 < i' ∧ i' ≤ 65 ∧ a'.length = 65 ∧ (((dg u').toNat : Nat) : Int) :: a'.drop i' = ints (hexm u) ++ a.drop i := by
  induction k with
  | zero =>
    intro u i a h h64 ha hi hi2
    have hu : u < 16 := by simpa using h
    exact ⟨u, i, a, fb_exit hu, hu, hi, hi2, ha, by rw [hexm_lt hu]; rfl⟩
  | succ k ih =>
    intro u i a h h64 ha hi hi2
    by_cases hu : u < 16
    · exact ⟨u, i, a, fb_exit hu, hu, by omega, hi2, ha, by rw [hexm_lt hu]; rfl⟩
    · have hm : u % 16 < 36 := by have := Nat.mod_lt u (show 16 > 0 by decide); omega
      obtain ⟨u', i', a', h1, h2, h3, h4, h5, h6⟩ := ih (u / 16) (i - 1) (a.set (i - 1) (((dg (u % 16)).toNat : Nat) : Int)) (by rw [Nat.div_lt_iff_lt_mul (by decide)]; rw [Nat.pow_succ] at h; exact h) (by omega) (by simpa using ha) (by omega) (by omega)
      refine ⟨u', i', a', To.succ ?_, h2, h3, h4, h5, ?_⟩
      · simp only [M.internal_strconv_formatBits_loop1]
        have hs : subC (i : Int) 1 = some ((i - 1 : Nat) : Int) := by rw [subC_eq (by omega) (by omega)]; congr 1; omega
        have hand : andU (u : Int) (wrapU (wrapU 16 - 1)) = ((u % 16 : Nat) : Int) := by
          have e15 : wrapU (wrapU 16 - 1) = ((15 : Nat) : Int) := by decide
          rw [e15, andU_nat h64 (by decide)]
          have := Nat.and_two_pow_sub_one_eq_mod u 4
          have e2 : (2 : Nat) ^ 4 - 1 = 15 := by decide
          have e3 : (2 : Nat) ^ 4 = 16 := by decide
          rw [e2, e3] at this; rw [this]
        have hshr : shrU (u : Int) (wrapU 4) = ((u / 16 : Nat) : Int) := by
          have e4 : wrapU 4 = ((4 : Nat) : Int) := by decide
          rw [e4, shrU_nat u 4 (by decide)]
        rw [hand, hshr]
        refine To.pos (by show (16 : Int) ≤ _; omega) (To.bindS hs (To.bindS (dg_idx hm) (To.bindS (show rngC 65 ((i - 1 : Nat) : Int) = some () from if_pos (by omega)) ?_)))
        rw [Int.toNat_natCast]
        exact h1
      · rw [h6, hexm_ge hu]
        have hlt : i - 1 < a.length := by omega
        have hd : (a.set (i - 1) (((dg (u % 16)).toNat : Nat) : Int)).drop (i - 1) = (((dg (u % 16)).toNat : Nat) : Int) :: a.drop i := by
          rw [List.drop_eq_getElem_cons (by simpa using hlt), List.getElem_set_self, List.drop_set_of_lt (by omega), show i - 1 + 1 = i by omega]
        rw [hd]
        simp [ints]
theorem strOf_ints (l : Str) : strOf (ints l) = l := by
  unfold strOf ints
  rw [List.map_map]
  conv => rhs; rw [← List.map_id l]
  apply List.map_congr_left
  intro b _
  simp
theorem tz16 : M.math_bits_TrailingZeros (wrapU 16) = some 4 := by kernel_rfl
theorem pow16 : M.internal_strconv_isPowerOfTwo 16 = some true := by kernel_rfl
theorem formatUint (u : Nat) (h : u < 18446744073709551616) : To (fun n => M.strconv_FormatUint n (u : Int) 16) (hexm u) := by
  obtain ⟨u', i', a', h1, h2, h3, h4, h5, h6⟩ := fb_loop 15 u 65 (List.replicate 65 0) (by simpa using h) h (by simp) (by decide) (by decide)
  have hs : subC (i' : Int) 1 = some ((i' - 1 : Nat) : Int) := by rw [subC_eq (by omega) (by omega)]; congr 1; omega
  have hdrop : (a'.set (i' - 1) (((dg u').toNat : Nat) : Int)).drop (i' - 1) = ints (hexm u) := by
    have e65 : (List.replicate 65 (0 : Int)).drop 65 = [] := by simp
    rw [List.drop_eq_getElem_cons (by simpa [h5] using (by omega : i' - 1 < 65)), List.getElem_set_self, List.drop_set_of_lt (by omega), show i' - 1 + 1 = i' by omega, h6, e65, List.append_nil]
  have hC : To (fun n => Option.bind (M.internal_strconv_isPowerOfTwo 16) fun ispowe =>
      if ispowe = true then
        Option.bind (M.math_bits_TrailingZeros (wrapU 16)) fun traili =>
        Option.bind (M.internal_strconv_formatBits_loop1 16 traili n (u : Int) (65 : Int) (List.replicate 65 (0 : Int))) fun (u2, i1, a1) =>
          Option.bind (subC i1 (1 : Int)) fun v1 =>
          Option.bind (idx hexL u2) fun b2 =>
          Option.bind (rngC 65 v1) fun _ =>
          some (v1, a1.set v1.toNat (b2.toNat : Int))
      else
        Option.bind (M.internal_strconv_formatBits_loop2 16 n (u : Int) (65 : Int) (List.replicate 65 (0 : Int))) fun (u3, i2, a2) =>
          Option.bind (subC i2 (1 : Int)) fun v3 =>
          Option.bind (idx hexL u3) fun b3 =>
          Option.bind (rngC 65 v3) fun _ =>
          some (v3, a2.set v3.toNat (b3.toNat : Int))) (((i' - 1 : Nat) : Int), a'.set (i' - 1) (((dg u').toNat : Nat) : Int)) :=
    To.bindS pow16 (To.pos rfl (To.bindS tz16 (To.bind h1 (To.bindS hs (To.bindS (dg_idx (by omega)) (To.bindS (show rngC 65 ((i' - 1 : Nat) : Int) = some () from if_pos (by omega)) To.pure))))))
  have hB : To (fun n => M.internal_strconv_formatBits n [] (u : Int) 16 false false) ([], hexm u) := by
    simp only [M.internal_strconv_formatBits]
    refine To.bindS (a := ()) rfl (To.bindS (a := (u : Int)) rfl (To.bind hC (To.bindS (a := (((i' - 1 : Nat) : Int), a'.set (i' - 1) (((dg u').toNat : Nat) : Int))) rfl (To.neg (by decide) ?_))))
    refine To.bindS (a := ints (hexm u)) ?_ (To.pure.of (by rw [strOf_ints]))
    show slcLo _ ((i' - 1 : Nat) : Int) = _
    unfold slcLo
    rw [if_pos (by simp [h5]; omega), Int.toNat_natCast, hdrop]
  have hF : To (fun n => M.internal_strconv_FormatUint n (u : Int) 16) (hexm u) := by
    simp only [M.internal_strconv_FormatUint]
    exact To.neg (by decide) (To.bind hB To.pure)
  simp only [M.strconv_FormatUint]
  exact To.bind hF To.pure
def Sm (s : Str) : Str := List.replicate (16 - (hexm (hsh s)).length) 48 ++ hexm (hsh s)
theorem hexm16 (s : Str) : (hexm (hsh s)).length ≤ 16 := hexm_len 15 _ (by simpa using (hsh_eq s).2)
theorem Sm_len (s : Str) : (Sm s).length = 16 := by
  have := hexm16 s
  simp [Sm]; omega
theorem Sm_hex (s : Str) : ∀ c ∈ Sm s, c ≠ 32 ∧ c ≠ 10 := by
  intro c hc
  rcases List.mem_append.1 hc with hc | hc
  · rw [List.eq_of_mem_replicate hc]; decide
  · exact hexm_hex 15 _ (by simpa using (hsh_eq s).2) c hc
theorem digest_Sum (s : Str) : To (fun n => M.digest_Sum n s) (Sm s) := by
  have h16 := hexm16 s
  simp only [M.digest_Sum]
  refine To.bindS (hsh_eq s).1 (To.bind (formatUint _ (hsh_eq s).2) (To.bindS (a := ((16 - (hexm (hsh s)).length : Nat) : Int)) ?_ (To.bindS (a := List.replicate (16 - (hexm (hsh s)).length) 48) ?_ (To.bindS (catC_eq ?_) To.pure))))
  · rw [subC_eq (by omega) (by omega)]; congr 1; omega
  · unfold Dec.repeatM
    rw [if_pos ⟨by omega, by simp; omega⟩, Int.toNat_natCast]
    congr 1
    generalize 16 - (hexm (hsh s)).length = k
    induction k with
    | zero => rfl
    | succ k ih => rw [Lib.repeatL, ih]; rfl
  · simp; omega
end Go.Proofs.YtkobngongonplaaDoor
/-
  Numerals: what Itoa writes, Atoi reads back; nothing here speaks of a program.
-/
set_option linter.unusedVariables false
set_option linter.unusedSimpArgs false
namespace Go.Proofs.YtkobngongonplaaDoor
open Go Go.Dec
theorem dec_small {u : Nat} (h : u < 10) : Lib.decDigits u = [UInt8.ofNat (48 + u)] := by rw [Lib.decDigits, dif_pos h]
theorem dec_big {u : Nat} (h : ¬ u < 10) : Lib.decDigits u = Lib.decDigits (u / 10) ++ [UInt8.ofNat (48 + u % 10)] := by rw [Lib.decDigits, dif_neg h]
theorem u8_dig {k : Nat} (h : k < 10) : (UInt8.ofNat (48 + k)).toNat = 48 + k := by
  simp; omega
theorem dec_ne (u : Nat) : Lib.decDigits u ≠ [] := by
  by_cases h : u < 10
  · rw [dec_small h]; simp
  · rw [dec_big h]; simp
theorem dec_digit : ∀ (u : Nat) (c : UInt8), c ∈ Lib.decDigits u → 48 ≤ c.toNat ∧ c.toNat ≤ 57 := by
  intro u
  induction u using Nat.strongRecOn with
  | _ u ih =>
    intro c hc
    by_cases h : u < 10
    · rw [dec_small h] at hc
      simp only [List.mem_singleton] at hc
      subst hc
      rw [u8_dig h]; omega
    · rw [dec_big h] at hc
      rcases List.mem_append.1 hc with h1 | h1
      · exact ih _ (by omega) c h1
      · simp only [List.mem_singleton] at h1
        subst h1
        rw [u8_dig (by omega)]; omega
theorem parse_app : ∀ (l : List UInt8) (acc u : Nat) (c : UInt8), Lib.parseUint10 acc l = .ok u → 48 ≤ c.toNat → c.toNat ≤ 57 → u * 10 + (c.toNat - 48) < 18446744073709551616 → Lib.parseUint10 acc (l ++ [c]) = .ok (u * 10 + (c.toNat - 48))
  | [], acc, u, c, h, h1, h2, h3 => by
    simp only [Lib.parseUint10] at h
    injection h with h
    subst h
    simp only [List.nil_append, Lib.parseUint10]
    rw [if_pos ⟨h1, h2⟩, if_neg (by omega), if_neg (by omega)]
  | d :: l, acc, u, c, h, h1, h2, h3 => by
    simp only [Lib.parseUint10] at h
    simp only [List.cons_append, Lib.parseUint10]
    split at h
    · rename_i hd
      rw [if_pos hd]
      split at h
      · cases h
      · rename_i h4
        rw [if_neg h4]
        split at h
        · cases h
        · rename_i h5
          rw [if_neg h5]
          exact parse_app l _ u c h h1 h2 h3
    · cases h
theorem parse_dec : ∀ (u : Nat), u < 18446744073709551616 → Lib.parseUint10 0 (Lib.decDigits u) = .ok u := by
  intro u
  induction u using Nat.strongRecOn with
  | _ u ih =>
    intro hu
    by_cases h : u < 10
    · have h2 : 48 ≤ (UInt8.ofNat (48 + u)).toNat ∧ (UInt8.ofNat (48 + u)).toNat ≤ 57 := by rw [u8_dig h]; omega
      rw [dec_small h]
      simp only [Lib.parseUint10]
      rw [if_pos h2, if_neg (by omega), if_neg (by omega), u8_dig h]
      congr 1; omega
    · have h2 : (UInt8.ofNat (48 + u % 10)).toNat = 48 + u % 10 := u8_dig (by omega)
      rw [dec_big h]
      have h3 := parse_app _ 0 _ (UInt8.ofNat (48 + u % 10)) (ih (u / 10) (by omega) (by omega)) (by omega) (by omega) (by omega)
      rw [h3]
      congr 1; omega
theorem atoi_itoa {n : Int} (h0 : -9223372036854775808 ≤ n) (h1 : n ≤ 9223372036854775807) : Lib.atoiAll (Lib.itoa n) = .ok n := by
  unfold Lib.itoa
  split
  · rename_i hn
    have hc : (45 : UInt8).toNat = 45 := rfl
    simp only [Lib.atoiAll, hc]
    rw [if_pos (Or.inr trivial)]
    unfold Lib.parseMag
    rw [if_neg (dec_ne _), parse_dec _ (by omega)]
    simp only [not_true, false_and, if_false, true_and]
    rw [if_neg (by omega)]
    simp only [if_true]
    congr 1; omega
  · rename_i hn
    obtain ⟨c, r, hcr⟩ : ∃ c r, Lib.decDigits n.toNat = c :: r := by
      cases hd : Lib.decDigits n.toNat with
      | nil => exact absurd hd (dec_ne _)
      | cons c r => exact ⟨c, r, rfl⟩
    have hc := dec_digit n.toNat c (by rw [hcr]; exact List.mem_cons_self)
    have hp : Lib.parseMag (c :: r) = .ok n.toNat := by
      unfold Lib.parseMag
      rw [if_neg (by simp), ← hcr, parse_dec _ (by omega)]
    rw [hcr]
    simp only [Lib.atoiAll]
    rw [if_neg (by omega), hp]
    have h45 : ¬ c.toNat = 45 := by omega
    simp only [h45, not_false_eq_true, true_and, false_and, if_false]
    rw [if_neg (by omega)]
    congr 1; omega
theorem itoa_byte {n : Int} {c : UInt8} (h : c ∈ Lib.itoa n) : c.toNat = 45 ∨ (48 ≤ c.toNat ∧ c.toNat ≤ 57) := by
  unfold Lib.itoa at h
  split at h
  · rcases List.mem_cons.1 h with rfl | h
    · exact .inl rfl
    · exact .inr (dec_digit _ c h)
  · exact .inr (dec_digit _ c h)
theorem dec_len : ∀ (k u : Nat), u < 10 ^ (k + 1) → (Lib.decDigits u).length ≤ k + 1
  | 0, u, h => by rw [dec_small (by simpa using h)]; simp
  | k + 1, u, h => by
    by_cases h1 : u < 10
    · rw [dec_small h1]; simp
    · rw [dec_big h1]
      have := dec_len k (u / 10) (by rw [Nat.pow_succ] at h; omega)
      simp; omega
end Go.Proofs.YtkobngongonplaaDoor
/-
  Pages: what they look like, and that they are read back.
-/
set_option linter.unusedVariables false
set_option linter.unusedSimpArgs false
namespace Go.Proofs.YtkobngongonplaaDoor
open Go Go.Dec
theorem splitC_cons (c : UInt8) (s : Str) : ∃ p ps, splitC c s = p :: ps := by
  cases s with
  | nil => exact ⟨_, _, rfl⟩
  | cons b l =>
    unfold splitC
    split
    · exact ⟨_, _, rfl⟩
    · split
      · exact ⟨_, _, rfl⟩
      · exact ⟨_, _, rfl⟩
theorem cut_split (c : UInt8) : ∀ (s p : Str) (ps : List Str), splitC c s = p :: ps →
    (ps = [] → Lib.cut s [c] = (s, [], false) ∧ p = s) ∧ (ps ≠ [] → ∃ rest, Lib.cut s [c] = (p, rest, true) ∧ splitC c rest = ps ∧ s = p ++ c :: rest)
  | [], p, ps, h => by
    simp only [splitC, List.cons.injEq] at h
    obtain ⟨rfl, rfl⟩ := h
    exact ⟨fun _ => ⟨rfl, rfl⟩, fun h => absurd rfl h⟩
  | b :: l, p, ps, h => by
    obtain ⟨q, qs, hq⟩ := splitC_cons c l
    have ih := cut_split c l q qs hq
    have hpre : ([c] : List UInt8).isPrefixOf (b :: l) = (c == b) := by simp [List.isPrefixOf]
    unfold splitC at h
    by_cases hb : b = c
    · rw [if_pos hb] at h
      simp only [List.cons.injEq] at h
      obtain ⟨rfl, rfl⟩ := h
      subst hb
      have hi : Lib.index (b :: l) [b] = 0 := by
        unfold Lib.index
        rw [hpre]; simp
      refine ⟨fun e => absurd (hq ▸ e) (by simp), fun _ => ⟨l, ?_, rfl, rfl⟩⟩
      unfold Lib.cut
      rw [hi]; rfl
    · rw [if_neg hb, hq] at h
      simp only [List.cons.injEq] at h
      obtain ⟨rfl, rfl⟩ := h
      have hi : Lib.index (b :: l) [c] = if Lib.index l [c] == -1 then -1 else Lib.index l [c] + 1 := by
        rw [Lib.index]
        rw [hpre]
        have : (c == b) = false := by simpa using fun e => hb (Eq.symm e)
        rw [this]; rfl
      have hge : Lib.index l [c] = -1 ∨ 0 ≤ Lib.index l [c] := by
        rcases Lib.index_spec l [c] with ⟨h1, _⟩ | ⟨i, h1, _⟩
        · exact .inl h1
        · exact .inr (by omega)
      refine ⟨fun e => ?_, fun e => ?_⟩
      · obtain ⟨h1, h2⟩ := ih.1 e
        have h3 : Lib.index l [c] = -1 := by
          unfold Lib.cut at h1
          split at h1
          · have := congrArg (fun x => x.2.2) h1; cases this
          · omega
        refine ⟨?_, by rw [h2]⟩
        unfold Lib.cut
        rw [hi, h3]; rfl
      · obtain ⟨rest, h1, h2, h3⟩ := ih.2 e
        have h4 : 0 ≤ Lib.index l [c] := by
          unfold Lib.cut at h1
          split at h1
          · assumption
          · have := congrArg (fun x => x.2.2) h1; cases this
        refine ⟨rest, ?_, h2, by rw [h3]; rfl⟩
        unfold Lib.cut at h1 ⊢
        rw [if_pos h4] at h1
        have h5 : (Lib.index l [c] == -1) = false := by simp; omega
        rw [hi, h5]
        simp only [Bool.false_eq_true, if_false]
        rw [if_pos (by omega)]
        obtain ⟨m, hm⟩ : ∃ m : Nat, Lib.index l [c] = (m : Int) := ⟨(Lib.index l [c]).toNat, by omega⟩
        rw [hm] at h1 ⊢
        have h6 : ((m : Int) + 1).toNat = m + 1 := by omega
        rw [h6]
        simp only [Int.toNat_natCast] at h1
        simp only [List.take_succ_cons, List.length_cons, List.length_nil, Prod.mk.injEq] at h1 ⊢
        refine ⟨by rw [h1.1], ?_, trivial⟩
        rw [← h1.2.1]
        rfl
theorem split_no {c : UInt8} : ∀ {l : Str}, c ∉ l → splitC c l = [l]
  | [], _ => rfl
  | b :: l, h => by
    have h1 : b ≠ c := fun e => h (by rw [e]; exact List.mem_cons_self)
    rw [splitC, if_neg h1, split_no (fun hm => h (List.mem_cons_of_mem _ hm))]
theorem split_app {c : UInt8} : ∀ {l : Str} (t : Str), c ∉ l → splitC c (l ++ c :: t) = l :: splitC c t
  | [], t, _ => by simp [splitC]
  | b :: l, t, h => by
    have h1 : b ≠ c := fun e => h (by rw [e]; exact List.mem_cons_self)
    rw [List.cons_append, splitC, if_neg h1, split_app t (fun hm => h (List.mem_cons_of_mem _ hm))]
theorem cut_app {c : UInt8} {l : Str} (t : Str) (h : c ∉ l) : Lib.cut (l ++ c :: t) [c] = (l, t, true) := by
  obtain ⟨q, qs, hq⟩ := splitC_cons c t
  obtain ⟨rest, h1, h2, h3⟩ := (cut_split c (l ++ c :: t) l (splitC c t) (split_app t h)).2 (by rw [hq]; simp)
  have : rest = t := by
    have := List.append_cancel_left h3
    exact (List.cons.inj this).2.symm
  rw [h1, this]
def nm (p : Int) : Str := if p = -1 then [45] else Lib.itoa p
def smm (m : journal_mark) (sign text : Str) : Str := Sm (m.sum_ ++ [10] ++ sign ++ [10] ++ text)
def pgT (m : journal_mark) (sign text : Str) : Str := nm m.page_ ++ [32] ++ smm m sign text ++ [32] ++ sign ++ [10] ++ text
structure MarkOk (m : journal_mark) : Prop where
  sum : m.sum_.length ≤ 16
  low : -1 ≤ m.page_
  high : m.page_ ≤ 4096
theorem nm_len {p : Int} (h0 : -1 ≤ p) (h1 : p ≤ 4096) : (nm p).length ≤ 4 := by
  unfold nm
  split
  · simp
  · unfold Lib.itoa
    rw [if_neg (by omega)]
    exact dec_len 3 p.toNat (by have : (10 : Nat) ^ 4 = 10000 := by decide
                                omega)
theorem nm_no {p : Int} {c : UInt8} (h : c.toNat < 45) : c ∉ nm p := by
  unfold nm
  split
  · intro hm
    rw [List.mem_singleton.1 hm] at h
    exact absurd h (by decide)
  · intro hm
    rcases itoa_byte hm with h1 | h1 <;> omega
theorem page_ok {m : journal_mark} (hm : MarkOk m) (sign text : Str) (hs : sign.length ≤ 1) (ht : text.length ≤ 1000000) : To (fun n => M.journal_page n m sign text) (pgT m sign text, smm m sign text) := by
  have h1 := hm.sum
  have hn := nm_len hm.low hm.high
  have hsum : To (fun n => M.journal_sum n m.sum_ sign text) (smm m sign text) := by
    simp only [M.journal_sum]
    refine To.bindS (catC_eq (by simp; omega)) (To.bindS (catC_eq (by simp; omega)) (To.bindS (catC_eq (by simp; omega)) (To.bindS (catC_eq (by simp; omega)) (To.bind (digest_Sum _) (To.pure.of ?_)))))
    simp [smm]
  have hl : (smm m sign text).length = 16 := Sm_len _
  have hname : M.journal_name m.page_ = some (nm m.page_) := by
    unfold M.journal_name nm
    split
    · rfl
    · rfl
  simp only [M.journal_page]
  refine To.bind hsum (To.bindS hname (To.bindS (catC_eq (by simp; omega)) (To.bindS (catC_eq (by simp; omega)) (To.bindS (catC_eq (by simp; omega)) (To.bindS (catC_eq (by simp; omega)) (To.bindS (catC_eq (by simp; omega)) (To.bindS (catC_eq (by simp; omega)) (To.pure.of ?_))))))))
  simp [pgT]
theorem pgT_len {m : journal_mark} (hm : MarkOk m) {sign text : Str} (hs : sign.length ≤ 1) (ht : text.length ≤ 16320) : (pgT m sign text).length ≤ 16384 := by
  have hn := nm_len hm.low hm.high
  have hl : (smm m sign text).length = 16 := Sm_len _
  simp [pgT, hl]; omega
theorem open_ok {m : journal_mark} (hm : MarkOk m) (at0 : Int) {sign : Str} (hs : sign = [43] ∨ sign = [46]) (text : Str) (ht : text.length ≤ 1000000) :
    M.journal_open at0 (pgT m sign text) = some ((⟨at0, m.page_, sign, text, pgT m sign text⟩ : journal_read), true) := by
  have hn := nm_len hm.low hm.high
  have hl : (smm m sign text).length = 16 := Sm_len _
  have hsl : sign.length = 1 := by rcases hs with rfl | rfl <;> rfl
  have hx := Sm_hex (m.sum_ ++ [10] ++ sign ++ [10] ++ text)
  have n32 : (32 : UInt8) ∉ nm m.page_ := nm_no (by decide)
  have n10 : (10 : UInt8) ∉ nm m.page_ := nm_no (by decide)
  have s32 : (32 : UInt8) ∉ smm m sign text := fun h => (hx _ h).1 rfl
  have s10 : (10 : UInt8) ∉ smm m sign text := fun h => (hx _ h).2 rfl
  have g32 : (32 : UInt8) ∉ sign := by rcases hs with rfl | rfl <;> decide
  have g10 : (10 : UInt8) ∉ sign := by rcases hs with rfl | rfl <;> decide
  let line := nm m.page_ ++ 32 :: (smm m sign text ++ 32 :: sign)
  have e : pgT m sign text = line ++ 10 :: text := by simp [pgT, line]
  have l10 : (10 : UInt8) ∉ line := by simp [line, n10, s10, g10]
  have hcut : cutM (pgT m sign text) [10] = some (line, text, true) := by
    unfold cutM
    rw [if_pos (by simp [pgT, hl]; omega), e, cut_app text l10]
  have hsplit : splitM line [32] = some [nm m.page_, smm m sign text, sign] := by
    unfold splitM
    show (if line.length < 4294967281 then some (splitC 32 line) else none) = _
    rw [if_pos (by simp [line, hl]; omega)]
    show some (splitC 32 (nm m.page_ ++ 32 :: (smm m sign text ++ 32 :: sign))) = _
    rw [split_app _ n32, split_app _ s32, split_no g32]
  have i0 : idx [nm m.page_, smm m sign text, sign] (0 : Int) = some (nm m.page_) := rfl
  have i2 : idx [nm m.page_, smm m sign text, sign] (2 : Int) = some sign := rfl
  unfold M.journal_open
  simp only [hcut, hsplit, Option.bind_some, i0, i2]
  have hc : (if (true : Bool) = false then some true else if (([nm m.page_, smm m sign text, sign].length : Nat) : Int) ≠ 3 then some true else if (sign != [43]) = true then some (sign != [46]) else some false) = some false := by
    rcases hs with rfl | rfl <;> rfl
  rw [hc]
  simp only [Option.bind_some]
  rw [if_neg (by decide)]
  by_cases hp : m.page_ = -1
  · have hnm : nm m.page_ = [45] := by unfold nm; rw [if_pos hp]
    rw [hnm, hp]
    rfl
  · have hp0 : 0 ≤ m.page_ := by have := hm.low; omega
    have hnm : nm m.page_ = Lib.itoa m.page_ := by unfold nm; rw [if_neg hp]
    have h45 : Lib.itoa m.page_ ≠ [45] := by
      intro h
      have : (45 : UInt8) ∈ Lib.itoa m.page_ := by rw [h]; simp
      unfold Lib.itoa at this
      rw [if_neg (by omega)] at this
      have := dec_digit _ _ this
      exact absurd this.1 (by decide)
    have hb : (Lib.itoa m.page_ != [45]) = true := by simpa using h45
    have hlen : (Lib.itoa m.page_).length ≤ 281474976710656 := by rw [← hnm]; omega
    have hat : atoiB (Lib.itoa m.page_) = some (m.page_, false) := by
      unfold atoiB
      rw [if_pos hlen, atoi_itoa (by omega) (by have := hm.high; omega)]
    have hit : itoaM m.page_ = some (Lib.itoa m.page_) := rfl
    rw [hnm]
    simp only [hat, hit, Option.bind_some]
    rw [if_pos hb, if_neg (by decide), if_neg (by omega), if_neg (by simp)]
    rfl
end Go.Proofs.YtkobngongonplaaDoor
