import Derived.Test.YtkobngongonplaaGreatDoorPg
/-
  The reference's digest, pages and words.
-/
set_option linter.unusedVariables false
set_option linter.unusedSimpArgs false
namespace Go.Proofs.YtkobngongonplaaGreatDoor
open Go Go.Dec
theorem r12_loop1 (s : Str) : ∀ (xs : Str) (i : Nat), s.drop i = xs → ∀ (h : Int) (u : Int), M.digest_Sum_loop1 (bytesOf xs) h = some u → To (fun n => M.r12_Text_loop1 s n h (i : Int)) u
  | [], i, hx, h, u, hu => by
    cases hu
    exact To.succ (by simp only [M.r12_Text_loop1]; exact To.neg (drop_end hx) To.pure)
  | b :: xs, i, hx, h, u, hu => by
    refine To.succ ?_
    simp only [M.r12_Text_loop1]
    rw [cast_succ]
    have hu : M.digest_Sum_loop1 ((b.toNat : Int) :: bytesOf xs) h = some u := hu
    simp only [M.digest_Sum_loop1] at hu
    exact To.pos (drop_lt hx) (To.bindS (drop_idx hx) (r12_loop1 s xs (i + 1) (drop_next hx) _ u hu))
def hxk : Nat → Nat → Str
  | 0, _ => []
  | k + 1, u => hxk k (u / 16) ++ [dg (u % 16)]
theorem hxk_zero : ∀ k, hxk k 0 = List.replicate k 48
  | 0 => rfl
  | k + 1 => by
    rw [hxk, Nat.zero_div, hxk_zero k, List.replicate_succ']
    rfl
theorem hxk_pad : ∀ (k u : Nat), u < 16 ^ (k + 1) → hxk (k + 1) u = List.replicate (k + 1 - (hexm u).length) 48 ++ hexm u
  | 0, u, h => by
    have h : u < 16 := by simpa using h
    rw [hexm_lt h, hxk, hxk, Nat.mod_eq_of_lt h]
    rfl
  | k + 1, u, h => by
    by_cases hu : u < 16
    · rw [hexm_lt hu, hxk, Nat.div_eq_of_lt hu, Nat.mod_eq_of_lt hu, hxk_zero]
      rfl
    · have hd : u / 16 < 16 ^ (k + 1) := by rw [Nat.div_lt_iff_lt_mul (by decide)]; rw [Nat.pow_succ] at h; exact h
      rw [hexm_ge hu, hxk, hxk_pad k _ hd, List.append_assoc]
      have e : k + 1 + 1 - (hexm (u / 16) ++ [dg (u % 16)]).length = k + 1 - (hexm (u / 16)).length := by simp
      rw [e]
theorem hxk_get : ∀ (k u i : Nat), i < k → (hxk k u)[i]? = some (dg (u / 16 ^ (k - 1 - i) % 16))
  | 0, u, i, h => by omega
  | k + 1, u, i, h => by
    have hl : ∀ k u, (hxk k u).length = k := by
      intro k
      induction k with
      | zero => intro u; rfl
      | succ k ih => intro u; rw [hxk]; simp [ih]
    rw [hxk]
    by_cases hi : i < k
    · rw [List.getElem?_append_left (by rw [hl]; exact hi), hxk_get k _ i hi, Nat.div_div_eq_div_mul, ← Nat.pow_succ']
      have : (k - 1 - i).succ = k + 1 - 1 - i := by omega
      rw [this]
    · have hik : i = k := by omega
      subst hik
      rw [List.getElem?_append_right (by rw [hl]; exact Nat.le_refl _), hl, Nat.sub_self]
      simp
theorem hxk_len : ∀ k u, (hxk k u).length = k := by
  intro k
  induction k with
  | zero => intro u; rfl
  | succ k ih => intro u; rw [hxk]; simp [ih]
theorem nib_val {k : Nat} (h : k < 16) : (if ((k : Nat) : Int) < 10 then wrap8 ((48 : Int) + (k : Int)) else wrap8 ((87 : Int) + (k : Int))) = ((dg k).toNat : Int) := by
  have : ∀ k : Fin 16, (if ((k.1 : Nat) : Int) < 10 then wrap8 ((48 : Int) + (k.1 : Int)) else wrap8 ((87 : Int) + (k.1 : Int))) = ((dg k.1).toNat : Int) := by decide
  exact this ⟨k, h⟩
theorem r12_loop2 (u : Nat) (hu : u < 18446744073709551616) : ∀ (r i : Nat), i + r = 16 → ∀ out : List Int, out = ints ((hxk 16 u).take i) → To (fun n => M.r12_Text_loop2 (u : Int) n out (i : Int)) (ints (hxk 16 u))
  | 0, i, h, out, ho => by
    refine To.succ ?_
    simp only [M.r12_Text_loop2]
    refine To.neg (by omega) (To.pure.of ?_)
    rw [ho, List.take_of_length_le (by rw [hxk_len]; omega)]
  | r + 1, i, h, out, ho => by
    refine To.succ ?_
    simp only [M.r12_Text_loop2]
    have h4 : mulC (4 : Int) (i : Int) = some ((4 * i : Nat) : Int) := by rw [mulC_eq (by omega) (by omega)]; simp
    have h60 : subC (60 : Int) ((4 * i : Nat) : Int) = some ((60 - 4 * i : Nat) : Int) := by rw [subC_eq (by omega) (by omega)]; congr 1; omega
    have hw : wrapU ((60 - 4 * i : Nat) : Int) = ((60 - 4 * i : Nat) : Int) := wrapU_id (by omega)
    have e15 : (15 : Int) = ((15 : Nat) : Int) := rfl
    have hn : wrap8 (andU (shrU (u : Int) (wrapU ((60 - 4 * i : Nat) : Int))) (15 : Int)) = ((u / 16 ^ (15 - i) % 16 : Nat) : Int) := by
      have hsm : u / 2 ^ (60 - 4 * i) < 18446744073709551616 := Nat.lt_of_le_of_lt (Nat.div_le_self _ _) hu
      rw [hw, shrU_nat u _ (by omega), e15, andU_nat hsm (by decide)]
      have h2 := Nat.and_two_pow_sub_one_eq_mod (u / 2 ^ (60 - 4 * i)) 4
      have e2 : (2 : Nat) ^ 4 - 1 = 15 := by decide
      have e3 : (2 : Nat) ^ 4 = 16 := by decide
      rw [e2, e3] at h2
      rw [h2]
      have hp : (2 : Nat) ^ (60 - 4 * i) = 16 ^ (15 - i) := by
        rw [show (16 : Nat) = 2 ^ 4 from rfl, ← Nat.pow_mul]
        congr 1; omega
      rw [hp]
      have hm := Nat.mod_lt (u / 16 ^ (15 - i)) (show 16 > 0 by decide)
      unfold wrap8
      omega
    have hm := Nat.mod_lt (u / 16 ^ (15 - i)) (show 16 > 0 by decide)
    have hol : out.length = i := by
      rw [ho]; simp [ints, hxk_len]; omega
    have hout : out ++ [((dg (u / 16 ^ (15 - i) % 16)).toNat : Int)] = ints ((hxk 16 u).take (i + 1)) := by
      have hg := hxk_get 16 u i (by omega)
      have e : 16 - 1 - i = 15 - i := by omega
      rw [e] at hg
      rw [List.take_add_one, hg, ho]
      simp [ints]
    have hnv := nib_val hm
    refine To.pos (by omega) (To.bindS h4 (To.bindS h60 ?_))
    rw [hn]
    have key := r12_loop2 u hu r (i + 1) (by omega) _ hout
    refine To.ite (fun hlt => ?_) (fun hge => ?_)
    · rw [if_pos hlt] at hnv
      have hww : wrap8 ((48 : Int) + ((u / 16 ^ (15 - i) % 16 : Nat) : Int)) = ((dg (u / 16 ^ (15 - i) % 16)).toNat : Int) := hnv
      rw [hww]
      exact To.bindS (appC_eq (by simp [hol]; omega)) (To.bindS (addC_succ (by omega)) key)
    · rw [if_neg hge] at hnv
      exact To.bindS (appC_eq (by simp [hol]; omega)) (To.bindS (addC_succ (by omega)) (by rw [hnv]; exact key))
theorem r12_ok (s : Str) : To (fun n => M.r12_Text n s) (Sm s) := by
  obtain ⟨h1, h2⟩ := hsh_eq s
  have a := r12_loop1 s s 0 rfl _ _ h1
  have b := r12_loop2 (hsh s) h2 16 0 rfl [] (by simp [ints])
  simp only [M.r12_Text]
  refine To.bind a (To.bind b (To.pure.of ?_))
  rw [strOf_ints, hxk_pad 15 _ (by simpa using h2)]
  rfl
theorem strOf_one (m : Nat) : strOf [((m : Nat) : Int)] = [UInt8.ofNat m] := by
  show [UInt8.ofNat ((m : Int).toNat)] = _
  rw [Int.toNat_natCast]
theorem r14_num (p : Int) (h0 : -1 ≤ p) (h1 : p ≤ 15) : To (fun n => M.r14_number n p) (nm p) := by
  by_cases hp : p = -1
  · subst hp
    exact To.pure
  · obtain ⟨k, rfl⟩ : ∃ k : Nat, p = (k : Int) := ⟨p.toNat, by omega⟩
    have hk : k ≤ 15 := by omega
    have hn : nm (k : Int) = Lib.decDigits k := by
      unfold nm Lib.itoa
      rw [if_neg (by omega), if_neg (by omega)]
      rfl
    rw [hn]
    simp only [M.r14_number]
    refine To.neg (by omega) (To.bind ?_ To.pure)
    by_cases hs : k < 10
    · rw [dec_small hs]
      refine To.succ ?_
      simp only [M.r12_Digits]
      refine To.neg (by omega) (To.pos (by omega) (To.bindS (addC_eq (by omega) (by omega)) (To.pure.of ?_)))
      have : wrap8 ((48 : Int) + (k : Int)) = ((48 + k : Nat) : Int) := by unfold wrap8; omega
      rw [this, strOf_one]
    · rw [dec_big hs, dec_small (u := k / 10) (by omega)]
      refine To.succ ?_
      simp only [M.r12_Digits]
      have hq : quoC (k : Int) (10 : Int) = some ((k / 10 : Nat) : Int) := by
        unfold quoC
        have e : (k : Int).tdiv 10 = ((k / 10 : Nat) : Int) := by rw [Int.tdiv_eq_ediv_of_nonneg (by omega)]; omega
        rw [e, if_pos ⟨by decide, by simp [fits64]; omega⟩]
      have hr : remC (k : Int) (10 : Int) = some ((k % 10 : Nat) : Int) := by
        unfold remC
        have e : (k : Int).tdiv 10 = ((k / 10 : Nat) : Int) := by rw [Int.tdiv_eq_ediv_of_nonneg (by omega)]; omega
        have e2 : (k : Int).tmod 10 = ((k % 10 : Nat) : Int) := by rw [Int.tmod_eq_emod_of_nonneg (by omega)]; omega
        rw [e2, if_pos ⟨by decide, by simp [fits64]; omega⟩]
      refine To.neg (by omega) (To.neg (by omega) (To.bindS hq (To.bind (a := [UInt8.ofNat (48 + k / 10)]) ?_ (To.bindS hr (To.bindS (addC_eq (by omega) (by omega)) (To.bindS (a := [UInt8.ofNat (48 + k / 10)] ++ [UInt8.ofNat (48 + k % 10)]) ?_ To.pure))))))
      · refine To.succ ?_
        simp only [M.r12_Digits]
        refine To.neg (by omega) (To.pos (by omega) (To.bindS (addC_eq (by omega) (by omega)) (To.pure.of ?_)))
        have : wrap8 ((48 : Int) + ((k / 10 : Nat) : Int)) = ((48 + k / 10 : Nat) : Int) := by unfold wrap8; omega
        rw [this, strOf_one]
      · have : wrap8 ((48 : Int) + ((k % 10 : Nat) : Int)) = ((48 + k % 10 : Nat) : Int) := by unfold wrap8; omega
        rw [this, strOf_one, catC_eq (by simp)]
theorem r14_page {m : journal_mark} (h0 : m.sum_.length ≤ 16) (h1 : -1 ≤ m.page_) (h2 : m.page_ ≤ 15) (sign text : Str) (hs : sign.length ≤ 1) (ht : text.length ≤ 1000000) :
    To (fun n => M.r14_Page n m.page_ m.sum_ sign text) (pgT m sign text, smm m sign text) := by
  have hn := nm_len h1 (by omega : m.page_ ≤ 4096)
  have hsum : To (fun n => M.r14_Sum n m.sum_ sign text) (smm m sign text) := by
    simp only [M.r14_Sum]
    refine To.bindS (catC_eq (by simp; omega)) (To.bindS (catC_eq (by simp; omega)) (To.bindS (catC_eq (by simp; omega)) (To.bindS (catC_eq (by simp; omega)) (To.bind (r12_ok _) (To.pure.of ?_)))))
    simp [smm]
  have hl : (smm m sign text).length = 16 := Sm_len _
  simp only [M.r14_Page]
  refine To.bind hsum (To.bind (r14_num _ h1 h2) (To.bindS (catC_eq (by simp; omega)) (To.bindS (catC_eq (by simp; omega)) (To.bindS (catC_eq (by simp; omega)) (To.bindS (catC_eq (by simp; omega)) (To.bindS (catC_eq (by simp; omega)) (To.bindS (catC_eq (by simp; omega)) (To.pure.of ?_))))))))
  simp [pgT]
theorem take_slc {s : Str} {a i : Nat} (h1 : a ≤ i) (h2 : i ≤ s.length) : slc s (a : Int) (i : Int) = some ((s.take i).drop a) := slc_nat s a i h1 h2
theorem wl_skip {s : Str} {r : Unit ⊕ (List Str × Str × Bool)} : ∀ (f rest : Str) (out : List Str) (a i : Nat), s.drop i = f ++ rest → (∀ c ∈ f, c ≠ 32 ∧ c ≠ 10) → To (fun n => M.r14_words_loop1 s n out (a : Int) ((i + f.length : Nat) : Int)) r → To (fun n => M.r14_words_loop1 s n out (a : Int) (i : Int)) r
  | [], rest, out, a, i, hd, hf, h => h
  | b :: f, rest, out, a, i, hd, hf, h => by
    have hb := hf b List.mem_cons_self
    have h32 : ¬ (b.toNat : Int) = 32 := fun e => hb.1 (UInt8.toNat_inj.1 (by show b.toNat = 32; omega))
    have h10 : ¬ (b.toNat : Int) = 10 := fun e => hb.2 (UInt8.toNat_inj.1 (by show b.toNat = 10; omega))
    have ih := wl_skip f rest out a (i + 1) (drop_next hd) (fun c hc => hf c (List.mem_cons_of_mem _ hc)) (by
      have e : i + 1 + f.length = i + (b :: f).length := by simp; omega
      rw [e]; exact h)
    refine To.succ ?_
    simp only [M.r14_words_loop1]
    refine To.pos (drop_lt hd) (To.bindS (a := (out, (a : Int))) ?_ (To.bindS (drop_idx hd) (To.neg h10 (by rw [cast_succ]; exact ih))))
    rw [drop_idx hd]
    simp only [Option.bind_some]
    rw [if_neg h32, decide_eq_false h10]
    rfl
theorem wl_sp {s rest : Str} {r : Unit ⊕ (List Str × Str × Bool)} {out : List Str} {a i : Nat} (hd : s.drop i = 32 :: rest) (ha : a ≤ i) (ho : out.length ≤ 1000000) (h : To (fun n => M.r14_words_loop1 s n (out ++ [(s.take i).drop a]) ((i + 1 : Nat) : Int) ((i + 1 : Nat) : Int)) r) :
    To (fun n => M.r14_words_loop1 s n out (a : Int) (i : Int)) r := by
  have hi := (drop_cons hd).1
  refine To.succ ?_
  simp only [M.r14_words_loop1]
  rw [cast_succ]
  refine To.pos (drop_lt hd) (To.bindS (a := (out ++ [(s.take i).drop a], ((i + 1 : Nat) : Int))) ?_ (To.bindS (drop_idx hd) (To.neg (by decide) h)))
  rw [drop_idx hd]
  simp only [Option.bind_some]
  rw [if_pos (by decide)]
  simp only [Option.bind_some]
  rw [if_pos trivial, take_slc ha (by omega)]
  simp only [Option.bind_some]
  rw [appC_eq (by simp; omega)]
  rfl
theorem wl_nl {s rest : Str} {out : List Str} {a i : Nat} (hd : s.drop i = 10 :: rest) (ha : a ≤ i) (ho : out.length ≤ 1000000) :
    To (fun n => M.r14_words_loop1 s n out (a : Int) (i : Int)) (.inr (out ++ [(s.take i).drop a], rest, decide (((out ++ [(s.take i).drop a]).length : Int) = 3))) := by
  have hi := (drop_cons hd).1
  refine To.succ ?_
  simp only [M.r14_words_loop1]
  rw [cast_succ]
  refine To.pos (drop_lt hd) (To.bindS (a := (out ++ [(s.take i).drop a], ((i + 1 : Nat) : Int))) ?_ (To.bindS (drop_idx hd) (To.pos (by decide) (To.bindS (a := rest) ?_ To.pure))))
  · rw [drop_idx hd]
    simp only [Option.bind_some]
    have e32 : (if (((10 : UInt8).toNat : Nat) : Int) = 32 then some true else some (decide ((((10 : UInt8).toNat : Nat) : Int) = 10))) = some true := by decide
    rw [e32]
    simp only [Option.bind_some]
    rw [if_pos trivial, take_slc ha (by omega)]
    simp only [Option.bind_some]
    rw [appC_eq (by simp; omega)]
    rfl
  · unfold slcLo
    rw [if_pos ⟨by omega, by omega⟩, Int.toNat_natCast, drop_next hd]
theorem wl_tot {s : Str} : ∀ (xs : Str) (i : Nat), s.drop i = xs → ∀ (out : List Str) (a : Nat), a ≤ i → out.length + xs.length ≤ 1000000 →
    ∃ r, To (fun n => M.r14_words_loop1 s n out (a : Int) (i : Int)) r ∧ (r = .inl () ∨ ∃ o p b, r = .inr (o, p, b) ∧ (b = true → o.length = 3) ∧ p.length ≤ s.length)
  | [], i, hx, out, a, ha, ho => ⟨.inl (), To.succ (by simp only [M.r14_words_loop1]; exact To.neg (drop_end hx) To.pure), .inl rfl⟩
  | c :: xs, i, hx, out, a, ha, ho => by
    simp only [List.length_cons] at ho
    by_cases h32 : c = 32
    · subst h32
      obtain ⟨r, h1, h2⟩ := wl_tot xs (i + 1) (drop_next hx) (out ++ [(s.take i).drop a]) (i + 1) (Nat.le_refl _) (by simp; omega)
      exact ⟨r, wl_sp hx ha (by omega) h1, h2⟩
    · by_cases h10 : c = 10
      · subst h10
        refine ⟨_, wl_nl hx ha (by omega), .inr ⟨_, _, _, rfl, fun h => by have := of_decide_eq_true h; omega, ?_⟩⟩
        have := congrArg List.length (drop_next hx)
        rw [List.length_drop] at this; omega
      · obtain ⟨r, h1, h2⟩ := wl_tot xs (i + 1) (drop_next hx) out a (by omega) (by omega)
        refine ⟨r, wl_skip [c] xs out a i hx (fun d hd => by rw [List.mem_singleton.1 hd]; exact ⟨h32, h10⟩) h1, h2⟩
theorem words_tot (s : Str) (hs : s.length ≤ 100000) : ∃ o p b, To (fun n => M.r14_words n s) (o, p, b) ∧ (b = true → o.length = 3) ∧ p.length ≤ s.length := by
  obtain ⟨r, h1, h2⟩ := wl_tot s 0 rfl [] 0 (Nat.le_refl _) (by simpa using by omega)
  rcases h2 with rfl | ⟨o, p, b, rfl, h3, h4⟩
  · exact ⟨[], [], false, by simp only [M.r14_words]; exact To.bind h1 To.pure, fun h => (by cases h), Nat.zero_le _⟩
  · exact ⟨o, p, b, by simp only [M.r14_words]; exact To.bind h1 To.pure, h3, h4⟩
theorem words_ok {w0 w1 sg text : Str} (h0 : ∀ c ∈ w0, c ≠ 32 ∧ c ≠ 10) (h1 : ∀ c ∈ w1, c ≠ 32 ∧ c ≠ 10) (h2 : ∀ c ∈ sg, c ≠ 32 ∧ c ≠ 10) :
    To (fun n => M.r14_words n (w0 ++ 32 :: (w1 ++ 32 :: (sg ++ 10 :: text)))) ([w0, w1, sg], text, true) := by
  generalize hs : w0 ++ 32 :: (w1 ++ 32 :: (sg ++ 10 :: text)) = s
  have d0 : s.drop 0 = w0 ++ 32 :: (w1 ++ 32 :: (sg ++ 10 :: text)) := hs.symm
  have d1 : s.drop (0 + w0.length) = 32 :: (w1 ++ 32 :: (sg ++ 10 :: text)) := by rw [Nat.zero_add, ← hs, List.drop_left]
  have d2 : s.drop (0 + w0.length + 1) = w1 ++ 32 :: (sg ++ 10 :: text) := drop_next d1
  have d3 : s.drop (0 + w0.length + 1 + w1.length) = 32 :: (sg ++ 10 :: text) := by
    rw [← List.drop_drop, d2, List.drop_left]
  have d4 := drop_next d3
  have d5 : s.drop (0 + w0.length + 1 + w1.length + 1 + sg.length) = 10 :: text := by
    rw [← List.drop_drop, d4, List.drop_left]
  have e0 : (s.take (0 + w0.length)).drop 0 = w0 := by rw [Nat.zero_add, ← hs, List.take_left]; rfl
  have cut : ∀ (a k : Nat) (w rest : Str), s.drop a = w ++ rest → k = w.length → (s.take (a + k)).drop a = w := by
    intro a k w rest h hk
    rw [List.drop_take, h, hk, show a + w.length - a = w.length by omega, List.take_left]
  have e1 := cut _ _ _ _ d2 rfl
  have e2 := cut _ _ _ _ d4 rfl
  have step3 := wl_nl (out := [] ++ [(s.take (0 + w0.length)).drop 0] ++ [(s.take (0 + w0.length + 1 + w1.length)).drop (0 + w0.length + 1)]) (a := 0 + w0.length + 1 + w1.length + 1) d5 (by omega) (by simp)
  have step2 := wl_sp (out := [] ++ [(s.take (0 + w0.length)).drop 0]) (a := 0 + w0.length + 1) d3 (by omega) (by simp) (wl_skip sg (10 :: text) _ _ _ d4 h2 step3)
  have step1 := wl_sp (out := []) (a := 0) d1 (by omega) (by simp) (wl_skip w1 (32 :: (sg ++ 10 :: text)) _ _ _ d2 h1 step2)
  have step0 := wl_skip w0 _ [] 0 0 d0 h0 step1
  rw [e0, e1, e2] at step0
  simp only [M.r14_words]
  exact To.bind step0 (To.pure.of (by simp))
end Go.Proofs.YtkobngongonplaaGreatDoor
/-
  Laws of a journal: a changed page.
-/
set_option linter.unusedVariables false
set_option linter.unusedSimpArgs false
namespace Go.Proofs.YtkobngongonplaaGreatDoor
open Go Go.Dec
theorem split_no_mem (c : UInt8) : ∀ (s p : Str) (ps : List Str), splitC c s = p :: ps → c ∉ p
  | [], p, ps, h => by
    simp only [splitC, List.cons.injEq] at h
    rw [← h.1]; simp
  | b :: l, p, ps, h => by
    unfold splitC at h
    by_cases hb : b = c
    · rw [if_pos hb] at h
      simp only [List.cons.injEq] at h
      rw [← h.1]; simp
    · rw [if_neg hb] at h
      obtain ⟨q, qs, hq⟩ := splitC_cons c l
      rw [hq] at h
      simp only [List.cons.injEq] at h
      have := split_no_mem c l q qs hq
      rw [← h.1]
      intro hm
      rcases List.mem_cons.1 hm with h1 | h1
      · exact hb h1.symm
      · exact this h1
theorem split_one {c : UInt8} {s p : Str} (h : splitC c s = [p]) : s = p ∧ c ∉ p := ⟨((cut_split c s p [] h).1 rfl).2.symm, split_no_mem c s p [] h⟩
theorem split_more {c : UInt8} {s p q : Str} {ps : List Str} (h : splitC c s = p :: q :: ps) : ∃ rest, s = p ++ c :: rest ∧ splitC c rest = q :: ps ∧ c ∉ p := by
  obtain ⟨rest, _, h2, h3⟩ := (cut_split c s p (q :: ps) h).2 (by simp)
  exact ⟨rest, h3, h2, split_no_mem c s p _ h⟩
theorem split_three {c : UInt8} {s : Str} (h : (splitC c s).length = 3) : ∃ a b d, splitC c s = [a, b, d] ∧ s = a ++ c :: (b ++ c :: d) ∧ c ∉ a ∧ c ∉ b ∧ c ∉ d := by
  match hs : splitC c s with
  | [a, b, d] =>
    obtain ⟨r1, e1, s1, n1⟩ := split_more hs
    obtain ⟨r2, e2, s2, n2⟩ := split_more s1
    obtain ⟨e3, n3⟩ := split_one s2
    exact ⟨a, b, d, rfl, by rw [e1, e2, e3], n1, n2, n3⟩
  | [] => rw [hs] at h; cases h
  | [_] => rw [hs] at h; cases h
  | [_, _] => rw [hs] at h; cases h
  | _ :: _ :: _ :: _ :: _ => rw [hs] at h; simp at h
structure Dcd (at0 : Int) (whole : Str) (r : journal_read) : Prop where
  at_ : r.at_ = at0
  whole_ : r.whole_ = whole
  sign : r.sign_ = [43] ∨ r.sign_ = [46]
  body : ∃ w0 w1, whole = w0 ++ 32 :: (w1 ++ 32 :: (r.sign_ ++ 10 :: r.text_)) ∧ (∀ c ∈ w0, c ≠ 32 ∧ c ≠ 10) ∧ (∀ c ∈ w1, c ≠ 32 ∧ c ≠ 10) ∧ ((w0 = [45] ∧ r.ahead_ = -1) ∨ (w0 ≠ [45] ∧ 0 ≤ r.ahead_ ∧ Lib.itoa r.ahead_ = w0))
theorem open_tot (at0 : Int) (whole : Str) (h : whole.length ≤ 100000) : ∃ r b, M.journal_open at0 whole = some (r, b) ∧ (b = true → Dcd at0 whole r) := by
  have hcut : cutM whole [10] = some (Lib.cut whole [10]) := by unfold cutM; rw [if_pos (by omega)]
  obtain ⟨line, qs, hq⟩ := splitC_cons 10 whole
  have hc := cut_split 10 whole line qs hq
  have hno := split_no_mem 10 whole line qs hq
  have hshape : ∃ text is, Lib.cut whole [10] = (line, text, is) ∧ (is = true → whole = line ++ 10 :: text) ∧ line.length ≤ whole.length := by
    by_cases hqs : qs = []
    · obtain ⟨h1, h2⟩ := hc.1 hqs
      exact ⟨[], false, by rw [h1, h2], (fun e => by cases e), by rw [h2]; exact Nat.le_refl _⟩
    · obtain ⟨rest, h1, h2, h3⟩ := hc.2 hqs
      exact ⟨rest, true, h1, fun _ => h3, by rw [h3]; simp⟩
  obtain ⟨text, is, hcc, hw, hll⟩ := hshape
  have hsplit : splitM line [32] = some (splitC 32 line) := by
    unfold splitM
    show (if line.length < 4294967281 then some (splitC 32 line) else none) = _
    rw [if_pos (by omega)]
  unfold M.journal_open
  simp only [hcut, hcc, Option.bind_some, hsplit]
  cases his : is with
  | false =>
    simp only [if_pos rfl, Option.bind_some]
    exact ⟨_, false, rfl, fun e => by cases e⟩
  | true =>
    rw [if_neg (by decide)]
    by_cases h3 : (splitC 32 line).length = 3
    · rw [if_neg (by rw [h3]; decide)]
      obtain ⟨w0, w1, sg, e1, e2, n0, n1, n2⟩ := split_three h3
      rw [e1]
      have i0 : idx [w0, w1, sg] (0 : Int) = some w0 := rfl
      have i2 : idx [w0, w1, sg] (2 : Int) = some sg := rfl
      simp only [i0, i2, Option.bind_some]
      have hwh := hw his
      have hm : ∀ w : Str, (∀ c, c ∈ w → c ∈ line) → (32 : UInt8) ∉ w → ∀ c ∈ w, c ≠ 32 ∧ c ≠ 10 := fun w hin h32 c hc => ⟨fun e => h32 (e ▸ hc), fun e => hno (e ▸ hin c hc)⟩
      have hsg : (if (sg != [43]) = true then some (sg != [46]) else some false) = some (decide (¬ (sg = [43] ∨ sg = [46]))) := by
        by_cases h43 : sg = [43]
        · rw [if_neg (by simp [h43])]; simp [h43]
        · rw [if_pos (by simpa using h43)]
          by_cases h46 : sg = [46] <;> simp [h43, h46]
      rw [hsg]
      simp only [Option.bind_some]
      by_cases hs : sg = [43] ∨ sg = [46]
      · rw [if_neg (by simp [hs])]
        have body : ∀ ahead : Int, ((w0 = [45] ∧ ahead = -1) ∨ (w0 ≠ [45] ∧ 0 ≤ ahead ∧ Lib.itoa ahead = w0)) → Dcd at0 whole ⟨at0, ahead, sg, text, whole⟩ := fun ahead ha =>
          ⟨rfl, rfl, hs, w0, w1, by
            show whole = w0 ++ 32 :: (w1 ++ 32 :: (sg ++ 10 :: text))
            rw [hwh, e2]; simp, hm w0 (fun c hc => by rw [e2]; simp [hc]) n0, hm w1 (fun c hc => by rw [e2]; simp [hc]) n1, ha⟩
        by_cases h45 : w0 = [45]
        · rw [if_neg (by simp [h45])]
          exact ⟨_, true, rfl, fun _ => body _ (.inl ⟨h45, rfl⟩)⟩
        · rw [if_pos (by simpa using h45)]
          have hwl : w0.length ≤ 281474976710656 := by
            have := congrArg List.length e2
            simp at this; omega
          have hat : ∃ v e, atoiB w0 = some (v, e) := by
            unfold atoiB
            rw [if_pos hwl]
            split <;> exact ⟨_, _, rfl⟩
          obtain ⟨v, e, hat⟩ := hat
          rw [hat]
          simp only [Option.bind_some]
          cases e with
          | true => exact ⟨_, false, rfl, fun e => by cases e⟩
          | false =>
            rw [if_neg (by decide)]
            by_cases hv : v < 0
            · rw [if_pos hv]
              exact ⟨_, false, rfl, fun e => by cases e⟩
            · rw [if_neg hv]
              simp only [itoaM, Option.bind_some]
              by_cases hi : Lib.itoa v = w0
              · rw [if_neg (by simp [hi])]
                exact ⟨_, true, rfl, fun _ => body _ (.inr ⟨h45, by omega, hi⟩)⟩
              · rw [if_pos (by simpa using hi)]
                exact ⟨_, false, rfl, fun e => by cases e⟩
      · rw [if_pos (by simpa using hs)]
        exact ⟨_, false, rfl, fun e => by cases e⟩
    · rw [if_pos (by omega)]
      simp only [Option.bind_some, if_true]
      exact ⟨_, false, rfl, fun e => by cases e⟩
theorem short_to (l : List Str) : ∃ b, To (fun n => M.law14_short n l) b ∧ (b = true → (∀ x ∈ l, x.length ≤ 400) ∧ l.length ≤ 12) := by
  have hl : ∀ (xs : List Str) (i : Nat), l.drop i = xs → ∃ r : Unit ⊕ Bool, To (fun n => M.law14_short_loop1 l n (i : Int)) r ∧ ((r = .inl () ∧ ∀ x ∈ xs, x.length ≤ 400) ∨ r = .inr false) := by
    intro xs
    induction xs with
    | nil => intro i hx; exact ⟨.inl (), To.succ (by simp only [M.law14_short_loop1]; exact To.neg (drop_end hx) To.pure), .inl ⟨rfl, fun x hx => by cases hx⟩⟩
    | cons x xs ih =>
      intro i hx
      by_cases h : (400 : Int) < (x.length : Int)
      · exact ⟨.inr false, To.succ (by simp only [M.law14_short_loop1]; exact To.pos (drop_lt hx) (To.bindS (drop_idx hx) (To.pos h To.pure))), .inr rfl⟩
      · obtain ⟨r, h1, h2⟩ := ih (i + 1) (drop_next hx)
        refine ⟨r, To.succ (by simp only [M.law14_short_loop1]; rw [cast_succ]; exact To.pos (drop_lt hx) (To.bindS (drop_idx hx) (To.neg h h1))), ?_⟩
        rcases h2 with h2 | h2
        · refine .inl ⟨h2.1, fun y hy => ?_⟩
          rcases List.mem_cons.1 hy with rfl | hy
          · omega
          · exact h2.2 y hy
        · exact .inr h2
  obtain ⟨r, h1, h2⟩ := hl l 0 rfl
  rcases h2 with ⟨rfl, h2⟩ | rfl
  · refine ⟨decide ((l.length : Int) ≤ 12), by simp only [M.law14_short]; exact To.bind h1 To.pure, fun h => ⟨h2, by have := of_decide_eq_true h; omega⟩⟩
  · exact ⟨false, by simp only [M.law14_short]; exact To.bind h1 To.pure, fun h => by cases h⟩
theorem back_ok (a : Int) (h0 : 0 ≤ a) (h1 : a ≤ 15) : To (fun n => M.r14_back n (Lib.itoa a)) a := by
  obtain ⟨k, rfl⟩ : ∃ k : Nat, a = (k : Int) := ⟨a.toNat, by omega⟩
  have hk : k ≤ 15 := by omega
  have hit : Lib.itoa (k : Int) = Lib.decDigits k := by
    unfold Lib.itoa
    rw [if_neg (by omega)]
    rfl
  have hnum := r14_num (k : Int) (by omega) (by omega)
  have hnm : nm (k : Int) = Lib.decDigits k := by
    unfold nm
    rw [if_neg (by omega), hit]
  rw [hnm] at hnum
  rw [hit]
  have h45 : Lib.decDigits k ≠ [45] := by
    intro h
    have := dec_digit k 45 (by rw [h]; simp)
    exact absurd this.1 (by decide)
  have hne := dec_ne k
  have step : ∀ (s : Str) (d : Nat) (xs : Str) (i : Nat) (v : Nat), d < 10 → s.drop i = UInt8.ofNat (48 + d) :: xs → i ≤ 6 → v ≤ 10 → ∀ r, To (fun n => M.r14_back_loop1 s n ((10 * v + d : Nat) : Int) ((i + 1 : Nat) : Int)) r → To (fun n => M.r14_back_loop1 s n (v : Int) (i : Int)) r := by
    intro s d xs i v hd hx hi hv r h
    refine To.succ ?_
    simp only [M.r14_back_loop1]
    rw [cast_succ]
    have hb : ((UInt8.ofNat (48 + d)).toNat : Int) = 48 + (d : Int) := by rw [u8_dig hd]; omega
    refine To.pos (drop_lt hx) (To.bindS (a := false) ?_ (To.neg (by simp) (To.bindS (drop_idx hx) ?_)))
    · rw [drop_idx hx]
      simp only [Option.bind_some]
      rw [hb, if_neg (by omega), if_neg (by omega), decide_eq_false (by omega)]
    · have : wrap64 (wrap64 ((10 : Int) * (v : Int)) + wrap8 (((UInt8.ofNat (48 + d)).toNat : Int) - (48 : Int))) = ((10 * v + d : Nat) : Int) := by
        rw [hb]
        have h8 : wrap8 (48 + (d : Int) - 48) = (d : Int) := by unfold wrap8; omega
        have h64 : wrap64 ((10 : Int) * (v : Int)) = ((10 * v : Nat) : Int) := by unfold wrap64; omega
        rw [h8, h64]
        unfold wrap64; omega
      rw [this]; exact h
  have fin : ∀ (s : Str) (i : Nat) (v : Int), s.drop i = [] → To (fun n => M.r14_back_loop1 s n v (i : Int)) (.inl v) := fun s i v hx => To.succ (by simp only [M.r14_back_loop1]; exact To.neg (drop_end hx) To.pure)
  have hloop : To (fun n => M.r14_back_loop1 (Lib.decDigits k) n ((0 : Nat) : Int) ((0 : Nat) : Int)) (.inl (k : Int)) := by
    by_cases hs : k < 10
    · rw [dec_small hs]
      refine step _ k [] 0 0 hs rfl (by omega) (by omega) _ ?_
      have e : ((10 * 0 + k : Nat) : Int) = (k : Int) := by omega
      rw [e]
      exact fin _ 1 _ rfl
    · rw [dec_big hs, dec_small (u := k / 10) (by omega)]
      refine step _ (k / 10) [UInt8.ofNat (48 + k % 10)] 0 0 (by omega) rfl (by omega) (by omega) _ (step _ (k % 10) [] 1 _ (by omega) rfl (by omega) (by omega) _ ?_)
      have e : ((10 * (10 * 0 + k / 10) + k % 10 : Nat) : Int) = (k : Int) := by omega
      rw [e]
      exact fin _ 2 _ rfl
  simp only [M.r14_back]
  exact To.neg (by simpa using h45) (To.bind hloop (To.neg (by simpa using hne) (To.bind hnum (To.neg (by simp) To.pure))))
theorem digits_tot (k : Nat) : k < 100000000 → ∃ d, To (fun n => M.r12_Digits n (k : Int)) d ∧ d.length ≤ k + 1 := by
  induction k using Nat.strongRecOn with
  | _ k ih =>
    intro hk
    by_cases hs : k < 10
    · refine ⟨strOf [wrap8 ((48 : Int) + (k : Int))], To.succ ?_, by simp [strOf]⟩
      simp only [M.r12_Digits]
      exact To.neg (by omega) (To.pos (by omega) (To.bindS (addC_eq (by omega) (by omega)) To.pure))
    · obtain ⟨d, h1, h2⟩ := ih (k / 10) (by omega) (by omega)
      have hq : quoC (k : Int) (10 : Int) = some ((k / 10 : Nat) : Int) := by
        unfold quoC
        have e : (k : Int).tdiv 10 = ((k / 10 : Nat) : Int) := by rw [Int.tdiv_eq_ediv_of_nonneg (by omega)]; omega
        rw [e, if_pos ⟨by decide, by simp [fits64]; omega⟩]
      have hr : remC (k : Int) (10 : Int) = some ((k % 10 : Nat) : Int) := by
        unfold remC
        have e : (k : Int).tdiv 10 = ((k / 10 : Nat) : Int) := by rw [Int.tdiv_eq_ediv_of_nonneg (by omega)]; omega
        have e2 : (k : Int).tmod 10 = ((k % 10 : Nat) : Int) := by rw [Int.tmod_eq_emod_of_nonneg (by omega)]; omega
        rw [e2, if_pos ⟨by decide, by simp [fits64]; omega⟩]
      refine ⟨d ++ strOf [wrap8 ((48 : Int) + ((k % 10 : Nat) : Int))], To.succ ?_, by simp [strOf]; omega⟩
      simp only [M.r12_Digits]
      exact To.neg (by omega) (To.neg (by omega) (To.bindS hq (To.bind h1 (To.bindS hr (To.bindS (addC_eq (by omega) (by omega)) (To.bindS (catC_eq (by simp [strOf]; omega)) To.pure))))))
theorem pow10_le {i : Nat} (h : i ≤ 7) : 10 ^ i ≤ 10000000 := Nat.pow_le_pow_right (by decide) h
theorem bl_tot2 {s : Str} : ∀ (xs : Str) (i : Nat), s.drop i = xs → ∀ v : Nat, v < 10 ^ i → i ≤ 7 → ∃ r : Int ⊕ Int, To (fun n => M.r14_back_loop1 s n (v : Int) (i : Int)) r ∧ (r = .inr (-2) ∨ ∃ w : Nat, r = .inl (w : Int) ∧ w < 100000000)
  | [], i, hx, v, h1, h2 => ⟨.inl v, To.succ (by simp only [M.r14_back_loop1]; exact To.neg (drop_end hx) To.pure), .inr ⟨v, rfl, by have := pow10_le h2; omega⟩⟩
  | c :: xs, i, hx, v, h1, h2 => by
    have hp := pow10_le h2
    have yes : (Option.bind (idx s (i : Int)) fun b => if (b.toNat : Int) < (48 : Int) then some true else Option.bind (idx s (i : Int)) fun b1 => if (57 : Int) < (b1.toNat : Int) then some true else some (decide ((6 : Int) < (i : Int)))) = some true → ∃ r : Int ⊕ Int, To (fun n => M.r14_back_loop1 s n (v : Int) (i : Int)) r ∧ (r = .inr (-2) ∨ ∃ w : Nat, r = .inl (w : Int) ∧ w < 100000000) := fun hb => by
      refine ⟨.inr (-2), To.succ ?_, .inl rfl⟩
      simp only [M.r14_back_loop1]
      exact To.pos (drop_lt hx) (To.bindS hb (To.pos rfl To.pure))
    by_cases c1 : (c.toNat : Int) < 48
    · exact yes (by rw [drop_idx hx]; simp only [Option.bind_some]; rw [if_pos c1])
    by_cases c2 : (57 : Int) < (c.toNat : Int)
    · exact yes (by rw [drop_idx hx]; simp only [Option.bind_some]; rw [if_neg c1, if_pos c2])
    by_cases c3 : (6 : Int) < (i : Int)
    · exact yes (by rw [drop_idx hx]; simp only [Option.bind_some]; rw [if_neg c1, if_neg c2, decide_eq_true c3])
    have hp6 : 10 ^ i ≤ 1000000 := Nat.pow_le_pow_right (n := 10) (by decide) (show i ≤ 6 by omega)
    have hw : wrap64 (wrap64 ((10 : Int) * (v : Int)) + wrap8 ((c.toNat : Int) - (48 : Int))) = ((10 * v + (c.toNat - 48) : Nat) : Int) := by
      have h8 : wrap8 ((c.toNat : Int) - 48) = ((c.toNat - 48 : Nat) : Int) := by unfold wrap8; omega
      have h64 : wrap64 ((10 : Int) * (v : Int)) = ((10 * v : Nat) : Int) := by unfold wrap64; omega
      rw [h8, h64]
      unfold wrap64; omega
    obtain ⟨r, q1, q2⟩ := bl_tot2 xs (i + 1) (drop_next hx) (10 * v + (c.toNat - 48)) (by rw [Nat.pow_succ]; omega) (by omega)
    refine ⟨r, To.succ ?_, q2⟩
    simp only [M.r14_back_loop1]
    rw [cast_succ]
    refine To.pos (drop_lt hx) (To.bindS (a := false) ?_ (To.neg (by simp) (To.bindS (drop_idx hx) (by rw [hw]; exact q1))))
    rw [drop_idx hx]
    simp only [Option.bind_some]
    rw [if_neg c1, if_neg c2, decide_eq_false c3]
theorem back_tot (s : Str) : ∃ v, To (fun n => M.r14_back n s) v := by
  by_cases h45 : s = [45]
  · exact ⟨-1, by simp only [M.r14_back]; exact To.pos (by simp [h45]) To.pure⟩
  · obtain ⟨r, h1, h2⟩ := bl_tot2 s 0 rfl 0 (by decide) (by decide)
    have h1 : To (fun n => M.r14_back_loop1 s n (0 : Int) (0 : Int)) r := h1
    simp only [M.r14_back]
    rcases h2 with rfl | ⟨w, rfl, hw⟩
    · exact ⟨-2, To.neg (by simpa using h45) (To.bind h1 To.pure)⟩
    · by_cases he : s = []
      · exact ⟨-2, To.neg (by simpa using h45) (To.bind h1 (To.pos (by simp [he]) To.pure))⟩
      · obtain ⟨d, q1, q2⟩ := digits_tot w hw
        have hnum : To (fun n => M.r14_number n (w : Int)) d := by
          simp only [M.r14_number]
          exact To.neg (by omega) (To.bind q1 To.pure)
        by_cases hd : d = s
        · exact ⟨w, To.neg (by simpa using h45) (To.bind h1 (To.neg (by simpa using he) (To.bind hnum (To.neg (by simp [hd]) To.pure))))⟩
        · exact ⟨-2, To.neg (by simpa using h45) (To.bind h1 (To.neg (by simpa using he) (To.bind hnum (To.pos (by simpa using hd) To.pure))))⟩
def Good (pages : List Str) (r : journal_read) : Prop :=
  ∃ (k : Nat) (w0 w1 : Str), r.at_ = (k : Int) ∧ k ≤ 15 ∧ pages[k]? = some r.whole_ ∧ To (fun n => M.r14_words n r.whole_) ([w0, w1, r.sign_], r.text_, true) ∧ r.text_.length ≤ 1000
structure Sml (pages : List Str) : Prop where
  few : pages.length ≤ 15
  small : ∀ p ∈ pages, p.length ≤ 1000
theorem Dcd.good {pages : List Str} {k : Nat} {w : Str} {r : journal_read} (hS : Sml pages) (hk : k ≤ 15) (hw : pages[k]? = some w) (h : Dcd (k : Int) w r) : Good pages r := by
  obtain ⟨w0, w1, e, n0, n1, _⟩ := h.body
  have hsg : ∀ c ∈ r.sign_, c ≠ 32 ∧ c ≠ 10 := by rcases h.sign with e | e <;> rw [e] <;> decide
  have hl := hS.small w (List.mem_of_getElem? hw)
  refine ⟨k, w0, w1, h.at_, hk, by rw [h.whole_]; exact hw, by rw [h.whole_, e]; exact words_ok n0 n1 hsg, ?_⟩
  have := congrArg List.length e
  simp at this; omega
theorem rway_tot {pages : List Str} (hS : Sml pages) : ∀ (m : Nat) (at0 : Int), -1 ≤ at0 → at0 < (m : Int) → ∀ (rs : List journal_read), (∀ r ∈ rs, Good pages r) → rs.length + m ≤ 100 →
    ∃ r, To (fun n => M.r14_Way_loop1 pages n (rs.map (·.at_)) at0) r ∧ (r = .inr ([], false) ∨ ∃ rs' : List journal_read, r = .inl (rs'.map (·.at_)) ∧ (∀ r ∈ rs', Good pages r) ∧ rs'.length ≤ 100)
  | 0, at0, h0, h1, rs, hg, hn => by
    refine ⟨.inl (rs.map (·.at_)), To.succ ?_, .inr ⟨rs, rfl, hg, by omega⟩⟩
    simp only [M.r14_Way_loop1]
    exact To.neg (by omega) To.pure
  | m + 1, at0, h0, h1, rs, hg, hn => by
    by_cases hneg : at0 < 0
    · refine ⟨.inl (rs.map (·.at_)), To.succ ?_, .inr ⟨rs, rfl, hg, by omega⟩⟩
      simp only [M.r14_Way_loop1]
      exact To.neg (by omega) To.pure
    · obtain ⟨k, rfl⟩ : ∃ k : Nat, at0 = (k : Int) := ⟨at0.toNat, by omega⟩
      by_cases hk : (pages.length : Int) ≤ (k : Int)
      · refine ⟨.inr ([], false), To.succ ?_, .inl rfl⟩
        simp only [M.r14_Way_loop1]
        exact To.pos (by omega) (To.pos hk To.pure)
      · have hkl : k < pages.length := by omega
        have hget : pages[k]? = some pages[k] := List.getElem?_eq_getElem hkl
        have hsm := hS.small pages[k] (List.getElem_mem hkl)
        obtain ⟨o, p, b, w1, w2, w3⟩ := words_tot pages[k] (by omega)
        have hix : idx pages (k : Int) = some pages[k] := by rw [idx_nat, hget]
        cases b with
        | false =>
          refine ⟨.inr ([], false), To.succ ?_, .inl rfl⟩
          simp only [M.r14_Way_loop1]
          exact To.pos (by omega) (To.neg hk (To.bindS hix (To.bind w1 (To.pos rfl To.pure))))
        | true =>
          obtain ⟨o0, o1, o2, rfl⟩ : ∃ o0 o1 o2, o = [o0, o1, o2] := by
            have := w2 rfl
            match o with
            | [a, b, c] => exact ⟨a, b, c, rfl⟩
            | [] => cases this
            | [_] => cases this
            | [_, _] => cases this
            | _ :: _ :: _ :: _ :: _ => simp at this
          obtain ⟨v, hv⟩ := back_tot o0
          have happ : appC [(k : Int)] (rs.map (·.at_)) = some ((k : Int) :: rs.map (·.at_)) := by rw [appC_eq (by simp; omega)]; rfl
          by_cases hv1 : v < -1
          · refine ⟨.inr ([], false), To.succ ?_, .inl rfl⟩
            simp only [M.r14_Way_loop1]
            exact To.pos (by omega) (To.neg hk (To.bindS hix (To.bind w1 (To.neg (by simp) (To.bindS happ (To.bindS rfl (To.bind hv (To.pos hv1 To.pure))))))))
          · by_cases hv2 : (k : Int) ≤ v
            · refine ⟨.inr ([], false), To.succ ?_, .inl rfl⟩
              simp only [M.r14_Way_loop1]
              exact To.pos (by omega) (To.neg hk (To.bindS hix (To.bind w1 (To.neg (by simp) (To.bindS happ (To.bindS rfl (To.bind hv (To.neg hv1 (To.pos hv2 To.pure)))))))))
            · obtain ⟨r, q1, q2⟩ := rway_tot hS m v (by omega) (by omega) (⟨(k : Int), v, o2, p, pages[k]⟩ :: rs) (fun r hr => by
                rcases List.mem_cons.1 hr with rfl | hr
                · exact ⟨k, o0, o1, rfl, by have := hS.few; omega, hget, w1, by show p.length ≤ 1000; omega⟩
                · exact hg r hr) (by simp; omega)
              refine ⟨r, To.succ ?_, q2⟩
              simp only [M.r14_Way_loop1]
              exact To.pos (by omega) (To.neg hk (To.bindS hix (To.bind w1 (To.neg (by simp) (To.bindS happ (To.bindS rfl (To.bind hv (To.neg hv1 (To.neg hv2 q1)))))))))
theorem cway_tot {s : pagestore_Store} (hd : s.down_ = false) (hS : Sml s.pages_) : ∀ (m : Nat) (at0 : Int), -1 ≤ at0 → at0 < (m : Int) → ∀ (out : List journal_read), out.length + m ≤ 100 →
    ∃ r, To (fun n => M.journal_way_loop1 s n out at0) r ∧ (r = .inr ([], false) ∨ ∃ rs : List journal_read, r = .inl (out ++ rs) ∧ rs.length ≤ m ∧ (∀ r ∈ rs, Good s.pages_ r ∧ (r.sign_ = [43] ∨ r.sign_ = [46])) ∧
      ∀ (way : List Int), way.length + m ≤ 200 → To (fun n => M.r14_Way_loop1 s.pages_ n way at0) (.inl (rs.reverse.map (·.at_) ++ way)))
  | 0, at0, h0, h1, out, hn => by
    have he : at0 = -1 := by omega
    subst he
    refine ⟨.inl out, To.succ ?_, .inr ⟨[], by simp, Nat.le_refl _, (fun r hr => by cases hr), fun way _ => To.succ ?_⟩⟩
    · simp only [M.journal_way_loop1]
      exact To.neg (by simp) To.pure
    · simp only [M.r14_Way_loop1]
      exact To.neg (by decide) (To.pure.of (by simp))
  | m + 1, at0, h0, h1, out, hn => by
    by_cases he : at0 = -1
    · subst he
      refine ⟨.inl out, To.succ ?_, .inr ⟨[], by simp, Nat.zero_le _, (fun r hr => by cases hr), fun way _ => To.succ ?_⟩⟩
      · simp only [M.journal_way_loop1]
        exact To.neg (by simp) To.pure
      · simp only [M.r14_Way_loop1]
        exact To.neg (by decide) (To.pure.of (by simp))
    · obtain ⟨k, rfl⟩ : ∃ k : Nat, at0 = (k : Int) := ⟨at0.toNat, by omega⟩
      by_cases hk : k < s.pages_.length
      · have hget : s.pages_[k]? = some s.pages_[k] := List.getElem?_eq_getElem hk
        have hsm := hS.small s.pages_[k] (List.getElem_mem hk)
        have hrd := read_ok hd hget
        obtain ⟨r, b, o1, o2⟩ := open_tot (k : Int) s.pages_[k] (by omega)
        have bad : (b = false ∨ (k : Int) ≤ r.ahead_) → ∃ r, To (fun n => M.journal_way_loop1 s n out (k : Int)) r ∧ (r = .inr ([], false) ∨ ∃ rs : List journal_read, r = .inl (out ++ rs) ∧ rs.length ≤ m + 1 ∧ (∀ r ∈ rs, Good s.pages_ r ∧ (r.sign_ = [43] ∨ r.sign_ = [46])) ∧
            ∀ (way : List Int), way.length + (m + 1) ≤ 200 → To (fun n => M.r14_Way_loop1 s.pages_ n way (k : Int)) (.inl (rs.reverse.map (·.at_) ++ way))) := fun hb => by
          refine ⟨.inr ([], false), To.succ ?_, .inl rfl⟩
          simp only [M.journal_way_loop1]
          refine To.pos he (To.bindS hrd (To.neg (by simp) (To.bindS o1 (To.bindS (a := true) ?_ (To.pos rfl To.pure)))))
          rcases hb with hb | hb
          · rw [if_pos hb]
          · by_cases hb2 : b = false
            · rw [if_pos hb2]
            · rw [if_neg hb2, decide_eq_true hb]
        cases b with
        | false => exact bad (.inl rfl)
        | true =>
          by_cases ha : (k : Int) ≤ r.ahead_
          · exact bad (.inr ha)
          · have hD := o2 rfl
            have hgood := hD.good hS (by have := hS.few; omega) hget
            obtain ⟨w0, w1, e, n0, n1, hah⟩ := hD.body
            have hsg : ∀ c ∈ r.sign_, c ≠ 32 ∧ c ≠ 10 := by rcases hD.sign with e | e <;> rw [e] <;> decide
            have hwords : To (fun n => M.r14_words n s.pages_[k]) ([w0, w1, r.sign_], r.text_, true) := by rw [e]; exact words_ok n0 n1 hsg
            have hlow : -1 ≤ r.ahead_ := by rcases hah with h | h <;> omega
            have hback : To (fun n => M.r14_back n w0) r.ahead_ := by
              rcases hah with ⟨h1, h2⟩ | ⟨h1, h2, h3⟩
              · rw [h1, h2]
                simp only [M.r14_back]
                exact To.pos (by decide) To.pure
              · rw [← h3]
                exact back_ok _ h2 (by have := hS.few; omega)
            obtain ⟨res, q1, q2⟩ := cway_tot hd hS m r.ahead_ hlow (by omega) (out ++ [r]) (by simp; omega)
            refine ⟨res, To.succ ?_, ?_⟩
            · simp only [M.journal_way_loop1]
              refine To.pos he (To.bindS hrd (To.neg (by simp) (To.bindS o1 (To.bindS (a := false) ?_ (To.neg (by simp) (To.bindS (appC_eq (by simp; omega)) q1))))))
              rw [if_neg (by simp), decide_eq_false ha]
            · rcases q2 with q2 | ⟨rs, p1, p2, p3, p4⟩
              · exact .inl q2
              · refine .inr ⟨r :: rs, by rw [p1]; simp, by simp; omega, fun x hx => ?_, fun way hway => To.succ ?_⟩
                · rcases List.mem_cons.1 hx with rfl | hx
                  · exact ⟨hgood, hD.sign⟩
                  · exact p3 x hx
                · simp only [M.r14_Way_loop1]
                  have happ : appC [(k : Int)] way = some ((k : Int) :: way) := by rw [appC_eq (by simp; omega)]; rfl
                  have hrec := p4 ((k : Int) :: way) (by simp; omega)
                  refine To.pos (by omega) (To.neg (by omega) (To.bindS (by rw [idx_nat, hget]) (To.bind hwords (To.neg (by simp) (To.bindS happ (To.bindS rfl (To.bind hback (To.neg (by omega) (To.neg ha (hrec.of ?_))))))))))
                  simp [hD.at_]
      · refine ⟨.inr ([], false), To.succ ?_, .inl rfl⟩
        simp only [M.journal_way_loop1]
        have hrd : M.pagestore_Store_Read s (k : Int) = some ([], 3) := by
          unfold M.pagestore_Store_Read M.pagestore_Store_there
          rw [if_neg (by rw [hd]; decide), if_pos (by omega)]
          have : (decide ((k : Int) < (s.pages_.length : Int))) = false := by simpa using hk
          simp only [Option.bind_some, this]
          rw [if_pos trivial]
        exact To.pos he (To.bindS hrd (To.pos (by simp) To.pure))
end Go.Proofs.YtkobngongonplaaGreatDoor
/-
  Laws of a journal: what the two ways forward accept; the law of a changed page.
-/
set_option linter.unusedVariables false
set_option linter.unusedSimpArgs false
namespace Go.Proofs.YtkobngongonplaaGreatDoor
open Go Go.Dec
def accW : List journal_read → List Str → List Str → journal_mark → Option (List Str × List Str × journal_mark)
  | [], ts, ps, m => some (ts, ps, m)
  | r :: rs, ts, ps, m =>
    if (r.sign_ = [43] ∨ r.sign_ = [46]) ∧ pgT m r.sign_ r.text_ = r.whole_ then
      if r.sign_ = [43] then accW rs ts (ps ++ [r.text_]) ⟨r.at_, smm m r.sign_ r.text_⟩
      else if cutP (ps ++ [r.text_]).flatten = ps ++ [r.text_] then accW rs (ts ++ [(ps ++ [r.text_]).flatten]) [] ⟨r.at_, smm m r.sign_ r.text_⟩
      else none
    else none
theorem equal_to (a b : List Str) : To (fun n => M.slices_Equal_string_string n a b) (decide (a = b)) := by
  by_cases hl : a.length = b.length
  · have hloop : ∀ (xs ys : List Str) (i : Nat), a.drop i = xs → b.drop i = ys → xs.length = ys.length → ∃ r : Unit ⊕ Bool, To (fun n => M.slices_Equal_string_string_loop1 a b n (i : Int)) r ∧ ((r = .inl () ∧ xs = ys) ∨ (r = .inr false ∧ xs ≠ ys)) := by
      intro xs
      induction xs with
      | nil =>
        intro ys i hx hy hll
        have hys : ys = [] := List.length_eq_zero_iff.1 hll.symm
        exact ⟨.inl (), To.succ (by simp only [M.slices_Equal_string_string_loop1]; exact To.neg (drop_end hx) To.pure), .inl ⟨rfl, hys.symm⟩⟩
      | cons x xs ih =>
        intro ys i hx hy hll
        cases ys with
        | nil => cases hll
        | cons y ys =>
          by_cases hxy : x = y
          · obtain ⟨r, h1, h2⟩ := ih ys (i + 1) (drop_next hx) (drop_next hy) (by simpa using hll)
            refine ⟨r, To.succ ?_, ?_⟩
            · simp only [M.slices_Equal_string_string_loop1]
              rw [cast_succ]
              exact To.pos (drop_lt hx) (To.bindS (drop_idx hx) (To.bindS (drop_idx hy) (To.neg (by simp [hxy]) h1)))
            · rcases h2 with ⟨h2, h3⟩ | ⟨h2, h3⟩
              · exact .inl ⟨h2, by rw [hxy, h3]⟩
              · exact .inr ⟨h2, fun e => h3 (List.cons.inj e).2⟩
          · refine ⟨.inr false, To.succ ?_, .inr ⟨rfl, fun e => hxy (List.cons.inj e).1⟩⟩
            simp only [M.slices_Equal_string_string_loop1]
            exact To.pos (drop_lt hx) (To.bindS (drop_idx hx) (To.bindS (drop_idx hy) (To.pos (by simpa using hxy) To.pure)))
    obtain ⟨r, h1, h2⟩ := hloop a b 0 rfl rfl hl
    simp only [M.slices_Equal_string_string]
    refine To.neg (by rw [hl]; simp) (To.bind h1 ?_)
    rcases h2 with ⟨rfl, h3⟩ | ⟨rfl, h3⟩
    · exact To.pure.of (by rw [decide_eq_true h3])
    · exact To.pure.of (by rw [decide_eq_false h3])
  · simp only [M.slices_Equal_string_string]
    refine To.pos (by omega) (To.pure.of ?_)
    rw [decide_eq_false (fun e => hl (by rw [e]))]
theorem lens_app (a : List Str) (x : Str) : lens (a ++ [x]) = lens a + x.length := by simp [lens]
theorem cload {v : journal_mark} : ∀ (rs : List journal_read) (ts ps : List Str) (m : journal_mark), MarkOk m → (∀ r ∈ rs, r.at_ ≤ 15 ∧ 0 ≤ r.at_ ∧ r.text_.length ≤ 1000 ∧ (r.sign_ = [43] ∨ r.sign_ = [46])) → ts.length + rs.length ≤ 200 → ps.length + rs.length ≤ 200 → lens ps + 1000 * rs.length ≤ 200000 →
    (∀ t p m', accW rs ts ps m = some (t, p, m') → To (fun n => M.journal_load_loop1 n rs ts ps v m) (.inl (t, p, v, m'))) ∧
    (accW rs ts ps m = none → ∃ mk, To (fun n => M.journal_load_loop1 n rs ts ps v m) (.inr ([], mk, 17)))
  | [], ts, ps, m, hm, hg, h1, h2, h3 => by
    constructor
    · intro t p m' h
      simp only [accW, Option.some.injEq, Prod.mk.injEq] at h
      obtain ⟨rfl, rfl, rfl⟩ := h
      simp only [M.journal_load_loop1]
      exact To.pure
    · intro h; cases h
  | r :: rs, ts, ps, m, hm, hg, h1, h2, h3 => by
    obtain ⟨g1, g2, g3, g4⟩ := hg r List.mem_cons_self
    simp only [List.length_cons] at h1 h2 h3
    have hpg := page_ok hm r.sign_ r.text_ (by rcases g4 with e | e <;> rw [e] <;> simp) (by omega)
    have hm2 : MarkOk ⟨r.at_, smm m r.sign_ r.text_⟩ := ⟨by rw [show (smm m r.sign_ r.text_).length = 16 from Sm_len _]; exact Nat.le_refl _, by show -1 ≤ r.at_; omega, by show r.at_ ≤ 4096; omega⟩
    have happ : appC ps [r.text_] = some (ps ++ [r.text_]) := appC_eq (by simp; omega)
    have hl1 := lens_app ps r.text_
    simp only [M.journal_load_loop1]
    by_cases hw : pgT m r.sign_ r.text_ = r.whole_
    · by_cases hsg : r.sign_ = [43]
      · have ih := cload (v := v) rs ts (ps ++ [r.text_]) ⟨r.at_, smm m r.sign_ r.text_⟩ hm2 (fun x hx => hg x (List.mem_cons_of_mem _ hx)) (by omega) (by simp; omega) (by omega)
        have e : accW (r :: rs) ts ps m = accW rs ts (ps ++ [r.text_]) ⟨r.at_, smm m r.sign_ r.text_⟩ := by rw [accW, if_pos ⟨g4, hw⟩, if_pos hsg]
        rw [e]
        constructor
        · intro t p m' h
          exact To.bind hpg (To.neg (by simp [hw]) (To.bindS happ (To.pos (by simp [hsg]) (ih.1 t p m' h))))
        · intro h
          obtain ⟨mk, hk⟩ := ih.2 h
          exact ⟨mk, To.bind hpg (To.neg (by simp [hw]) (To.bindS happ (To.pos (by simp [hsg]) hk)))⟩
      · have hfl : (ps ++ [r.text_]).flatten.length ≤ 261120 := by
          show lens (ps ++ [r.text_]) ≤ _
          omega
        have hj := join_ok (ps ++ [r.text_]) (by omega)
        have hc := cut_ok (ps ++ [r.text_]).flatten hfl
        have he := equal_to (cutP (ps ++ [r.text_]).flatten) (ps ++ [r.text_])
        by_cases hcut : cutP (ps ++ [r.text_]).flatten = ps ++ [r.text_]
        · have ih := cload (v := v) rs (ts ++ [(ps ++ [r.text_]).flatten]) [] ⟨r.at_, smm m r.sign_ r.text_⟩ hm2 (fun x hx => hg x (List.mem_cons_of_mem _ hx)) (by simp; omega) (by simp; omega) (by simp [lens]; omega)
          have e : accW (r :: rs) ts ps m = accW rs (ts ++ [(ps ++ [r.text_]).flatten]) [] ⟨r.at_, smm m r.sign_ r.text_⟩ := by rw [accW, if_pos ⟨g4, hw⟩, if_neg hsg, if_pos hcut]
          rw [decide_eq_true hcut] at he
          rw [e]
          have happ2 : appC ts [(ps ++ [r.text_]).flatten] = some (ts ++ [(ps ++ [r.text_]).flatten]) := appC_eq (by simp; omega)
          constructor
          · intro t p m' h
            exact To.bind hpg (To.neg (by simp [hw]) (To.bindS happ (To.neg (by simpa using hsg) (To.bindS hj (To.bind hc (To.bind he (To.neg (by simp) (To.bindS happ2 (ih.1 t p m' h)))))))))
          · intro h
            obtain ⟨mk, hk⟩ := ih.2 h
            exact ⟨mk, To.bind hpg (To.neg (by simp [hw]) (To.bindS happ (To.neg (by simpa using hsg) (To.bindS hj (To.bind hc (To.bind he (To.neg (by simp) (To.bindS happ2 hk))))))))⟩
        · have e : accW (r :: rs) ts ps m = none := by rw [accW, if_pos ⟨g4, hw⟩, if_neg hsg, if_neg hcut]
          rw [decide_eq_false hcut] at he
          rw [e]
          refine ⟨(fun t p m' h => by cases h), fun _ => ⟨_, To.bind hpg (To.neg (by simp [hw]) (To.bindS happ (To.neg (by simpa using hsg) (To.bindS hj (To.bind hc (To.bind he (To.pos rfl To.pure)))))))⟩⟩
    · have e : accW (r :: rs) ts ps m = none := by rw [accW, if_neg (fun h => hw h.2)]
      rw [e]
      exact ⟨(fun t p m' h => by cases h), fun _ => ⟨_, To.bind hpg (To.pos (by simpa using hw) To.pure)⟩⟩
theorem rloop3 (l : List Str) : ∀ (xs : List Str) (i : Nat), l.drop i = xs → ∀ w : Str, w.length + lens xs ≤ 1000000 → To (fun n => M.r14_Way_loop3 l n w (i : Int)) (w ++ xs.flatten)
  | [], i, hx, w, h => To.succ (by simp only [M.r14_Way_loop3]; exact To.neg (drop_end hx) (To.pure.of (by simp)))
  | x :: xs, i, hx, w, h => by
    rw [lens_cons] at h
    have ih := rloop3 l xs (i + 1) (drop_next hx) (w ++ x) (by simp; omega)
    refine To.succ ?_
    simp only [M.r14_Way_loop3]
    rw [cast_succ]
    exact To.pos (drop_lt hx) (To.bindS (drop_idx hx) (To.bindS (catC_eq (by omega)) (ih.of (by simp))))
theorem rloop4 (a b : List Str) : ∀ (xs ys : List Str) (i : Nat), b.drop i = xs → a.drop i = ys → xs.length = ys.length → ∃ r : Unit ⊕ (List Str × Bool), To (fun n => M.r14_Way_loop4 a b n (i : Int)) r ∧ ((r = .inl () ∧ xs = ys) ∨ (r = .inr ([], false) ∧ xs ≠ ys))
  | [], ys, i, hx, hy, hl => by
    have hys : ys = [] := List.length_eq_zero_iff.1 hl.symm
    exact ⟨.inl (), To.succ (by simp only [M.r14_Way_loop4]; exact To.neg (drop_end hx) To.pure), .inl ⟨rfl, hys.symm⟩⟩
  | x :: xs, [], i, hx, hy, hl => by cases hl
  | x :: xs, y :: ys, i, hx, hy, hl => by
    by_cases hxy : x = y
    · obtain ⟨r, h1, h2⟩ := rloop4 a b xs ys (i + 1) (drop_next hx) (drop_next hy) (by simpa using hl)
      refine ⟨r, To.succ ?_, ?_⟩
      · simp only [M.r14_Way_loop4]
        rw [cast_succ]
        exact To.pos (drop_lt hx) (To.bindS (drop_idx hx) (To.bindS (drop_idx hy) (To.neg (by simp [hxy]) h1)))
      · rcases h2 with ⟨h2, h3⟩ | ⟨h2, h3⟩
        · exact .inl ⟨h2, by rw [hxy, h3]⟩
        · exact .inr ⟨h2, fun e => h3 (List.cons.inj e).2⟩
    · refine ⟨.inr ([], false), To.succ ?_, .inr ⟨rfl, fun e => hxy (List.cons.inj e).1⟩⟩
      simp only [M.r14_Way_loop4]
      exact To.pos (drop_lt hx) (To.bindS (drop_idx hx) (To.bindS (drop_idx hy) (To.pos (by simpa using hxy) To.pure)))
theorem rsign (a b c : Str) : (Option.bind (idx [a, b, c] (2 : Int)) fun v5 => if (v5 != ([43] : Str)) = true then Option.bind (idx [a, b, c] (2 : Int)) fun v6 => some (v6 != ([46] : Str)) else some false) = some (decide (¬ (c = [43] ∨ c = [46]))) := by
  have i2 : idx [a, b, c] (2 : Int) = some c := rfl
  simp only [i2, Option.bind_some]
  by_cases h43 : c = [43]
  · rw [if_neg (by simp [h43])]; simp [h43]
  · rw [if_pos (by simpa using h43)]
    by_cases h46 : c = [46] <;> simp [h43, h46]
theorem rfwd {pages : List Str} (way : List Int) : ∀ (rs : List journal_read) (i : Nat), way.drop i = rs.map (·.at_) → (∀ r ∈ rs, Good pages r) → ∀ (ts ps : List Str) (m : journal_mark), m.sum_.length ≤ 16 → -1 ≤ m.page_ → m.page_ ≤ 15 → i + rs.length ≤ 1000 → ts.length + rs.length ≤ 200 → ps.length + rs.length ≤ 200 → lens ps + 1000 * rs.length ≤ 200000 →
    (∀ t p m', accW rs ts ps m = some (t, p, m') → To (fun n => M.r14_Way_loop2 pages way n ts m.sum_ m.page_ ps (i : Int)) (.inl (t, p))) ∧
    (accW rs ts ps m = none → To (fun n => M.r14_Way_loop2 pages way n ts m.sum_ m.page_ ps (i : Int)) (.inr ([], false)))
  | [], i, hx, hg, ts, ps, m, q1, q2, q3, hi, h1, h2, h3 => by
    constructor
    · intro t p m' h
      simp only [accW, Option.some.injEq, Prod.mk.injEq] at h
      obtain ⟨rfl, rfl, rfl⟩ := h
      exact To.succ (by simp only [M.r14_Way_loop2]; exact To.neg (drop_end hx) To.pure)
    · intro h; cases h
  | r :: rs, i, hx, hg, ts, ps, m, q1, q2, q3, hi, h1, h2, h3 => by
    obtain ⟨k, w0, w1, g1, g2, g3, g4, g5⟩ := hg r List.mem_cons_self
    simp only [List.length_cons] at h1 h2 h3 hi
    have hx' : way.drop i = r.at_ :: rs.map (·.at_) := hx
    have hwi := drop_idx hx'
    have hpi : idx pages r.at_ = some r.whole_ := by rw [g1, idx_nat, g3]
    have hsgn := rsign w0 w1 r.sign_
    have i2 : idx [w0, w1, r.sign_] (2 : Int) = some r.sign_ := rfl
    have happ : appC ps [r.text_] = some (ps ++ [r.text_]) := appC_eq (by simp; omega)
    have hl1 := lens_app ps r.text_
    by_cases hs : r.sign_ = [43] ∨ r.sign_ = [46]
    · rw [decide_eq_false (fun h => h hs)] at hsgn
      have hpg := r14_page q1 q2 q3 r.sign_ r.text_ (by rcases hs with e | e <;> rw [e] <;> simp) (by omega)
      have hs16 : (smm m r.sign_ r.text_).length ≤ 16 := by rw [show (smm m r.sign_ r.text_).length = 16 from Sm_len _]; exact Nat.le_refl _
      have front : ∀ {R : (List Str × List Str) ⊕ (List Str × Bool)}, pgT m r.sign_ r.text_ = r.whole_ → To (fun n => if (r.sign_ == ([43] : Str)) = true then
              M.r14_Way_loop2 pages way n ts (smm m r.sign_ r.text_) r.at_ (ps ++ [r.text_]) ((i : Int) + 1)
            else
              Option.bind (M.r14_Way_loop3 (ps ++ [r.text_]) n ([] : Str) (0 : Int)) fun whole =>
                Option.bind (M.r14_Cut n whole) fun cut =>
                Option.bind (
                    if (cut.length : Int) ≠ ((ps ++ [r.text_]).length : Int) then
                      some true
                    else
                      some (decide ((16 : Int) < (cut.length : Int)))
                  ) fun v14 =>
                  if v14 = true then
                    some (.inr (([] : List Str), false))
                  else
                    Option.bind (M.r14_Way_loop4 (ps ++ [r.text_]) cut n (0 : Int)) fun
                      | .inl _ =>
                        Option.bind (appC ts [whole]) fun out2 =>
                        Option.bind (addC (i : Int) (1 : Int)) fun v17 =>
                        M.r14_Way_loop2 pages way n out2 (smm m r.sign_ r.text_) r.at_ ([] : List Str) v17
                      | .inr ret0 => some (.inr ret0)) R → To (fun n => M.r14_Way_loop2 pages way n ts m.sum_ m.page_ ps (i : Int)) R := fun hw h => by
        refine To.succ ?_
        simp only [M.r14_Way_loop2]
        exact To.pos (drop_lt hx') (To.bindS hwi (To.bindS hpi (To.bind g4 (To.bindS hsgn (To.neg (by simp) (To.bindS i2 (To.bind hpg (To.bindS hwi (To.bindS hpi (To.neg (by simp [hw]) (To.bindS hwi (To.bindS happ (To.bindS i2 h)))))))))))))
      by_cases hw : pgT m r.sign_ r.text_ = r.whole_
      · by_cases hsg : r.sign_ = [43]
        · have ih := rfwd (pages := pages) way rs (i + 1) (drop_next hx') (fun x hx => hg x (List.mem_cons_of_mem _ hx)) ts (ps ++ [r.text_]) ⟨r.at_, smm m r.sign_ r.text_⟩ hs16 (by show -1 ≤ r.at_; omega) (by show r.at_ ≤ 15; omega) (by omega) (by omega) (by simp; omega) (by omega)
          have e : accW (r :: rs) ts ps m = accW rs ts (ps ++ [r.text_]) ⟨r.at_, smm m r.sign_ r.text_⟩ := by rw [accW, if_pos ⟨hs, hw⟩, if_pos hsg]
          rw [e]
          exact ⟨fun t p m' h => front hw (To.pos (by simp [hsg]) (by rw [cast_succ]; exact ih.1 t p m' h)), fun h => front hw (To.pos (by simp [hsg]) (by rw [cast_succ]; exact ih.2 h))⟩
        · have hfl : (ps ++ [r.text_]).flatten.length ≤ 261120 := by
            show lens (ps ++ [r.text_]) ≤ _
            omega
          have h3' := rloop3 (ps ++ [r.text_]) (ps ++ [r.text_]) 0 rfl [] (by simp only [List.length_nil]; omega)
          rw [List.nil_append] at h3'
          have hcu := rcut_ok (ps ++ [r.text_]).flatten (by omega)
          have hcl := cutP_len (ps ++ [r.text_]).flatten
          by_cases hlen : (cutP (ps ++ [r.text_]).flatten).length = (ps ++ [r.text_]).length
          · have hcond : (if ((cutP (ps ++ [r.text_]).flatten).length : Int) ≠ ((ps ++ [r.text_]).length : Int) then some true else some (decide ((16 : Int) < ((cutP (ps ++ [r.text_]).flatten).length : Int)))) = some false := by
              rw [if_neg (by omega), decide_eq_false (by omega)]
            obtain ⟨res, l1, l2⟩ := rloop4 (ps ++ [r.text_]) (cutP (ps ++ [r.text_]).flatten) (cutP (ps ++ [r.text_]).flatten) (ps ++ [r.text_]) 0 rfl rfl hlen
            rcases l2 with ⟨rfl, l3⟩ | ⟨rfl, l3⟩
            · have ih := rfwd (pages := pages) way rs (i + 1) (drop_next hx') (fun x hx => hg x (List.mem_cons_of_mem _ hx)) (ts ++ [(ps ++ [r.text_]).flatten]) [] ⟨r.at_, smm m r.sign_ r.text_⟩ hs16 (by show -1 ≤ r.at_; omega) (by show r.at_ ≤ 15; omega) (by omega) (by simp; omega) (by simp; omega) (by simp [lens]; omega)
              have e : accW (r :: rs) ts ps m = accW rs (ts ++ [(ps ++ [r.text_]).flatten]) [] ⟨r.at_, smm m r.sign_ r.text_⟩ := by rw [accW, if_pos ⟨hs, hw⟩, if_neg hsg, if_pos l3]
              rw [e]
              have happ2 : appC ts [(ps ++ [r.text_]).flatten] = some (ts ++ [(ps ++ [r.text_]).flatten]) := appC_eq (by simp; omega)
              exact ⟨fun t p m' h => front hw (To.neg (by simpa using hsg) (To.bind h3' (To.bind hcu (To.bindS hcond (To.neg (by simp) (To.bind l1 (To.bindS happ2 (To.bindS (addC_succ (by omega)) (ih.1 t p m' h))))))))),
                fun h => front hw (To.neg (by simpa using hsg) (To.bind h3' (To.bind hcu (To.bindS hcond (To.neg (by simp) (To.bind l1 (To.bindS happ2 (To.bindS (addC_succ (by omega)) (ih.2 h)))))))))⟩
            · have e : accW (r :: rs) ts ps m = none := by rw [accW, if_pos ⟨hs, hw⟩, if_neg hsg, if_neg l3]
              rw [e]
              exact ⟨(fun t p m' h => by cases h), fun _ => front hw (To.neg (by simpa using hsg) (To.bind h3' (To.bind hcu (To.bindS hcond (To.neg (by simp) (To.bind l1 To.pure))))))⟩
          · have hcond : (if ((cutP (ps ++ [r.text_]).flatten).length : Int) ≠ ((ps ++ [r.text_]).length : Int) then some true else some (decide ((16 : Int) < ((cutP (ps ++ [r.text_]).flatten).length : Int)))) = some true := if_pos (by omega)
            have e : accW (r :: rs) ts ps m = none := by rw [accW, if_pos ⟨hs, hw⟩, if_neg hsg, if_neg (fun h => hlen (by rw [h]))]
            rw [e]
            exact ⟨(fun t p m' h => by cases h), fun _ => front hw (To.neg (by simpa using hsg) (To.bind h3' (To.bind hcu (To.bindS hcond (To.pos rfl To.pure)))))⟩
      · have e : accW (r :: rs) ts ps m = none := by rw [accW, if_neg (fun h => hw h.2)]
        rw [e]
        refine ⟨(fun t p m' h => by cases h), fun _ => To.succ ?_⟩
        simp only [M.r14_Way_loop2]
        exact To.pos (drop_lt hx') (To.bindS hwi (To.bindS hpi (To.bind g4 (To.bindS hsgn (To.neg (by simp) (To.bindS i2 (To.bind hpg (To.bindS hwi (To.bindS hpi (To.pos (by simpa using hw) To.pure))))))))))
    · rw [decide_eq_true hs] at hsgn
      have e : accW (r :: rs) ts ps m = none := by rw [accW, if_neg (fun h => hs h.1)]
      rw [e]
      refine ⟨(fun t p m' h => by cases h), fun _ => To.succ ?_⟩
      simp only [M.r14_Way_loop2]
      exact To.pos (drop_lt hx') (To.bindS hwi (To.bindS hpi (To.bind g4 (To.bindS hsgn (To.pos rfl To.pure)))))
theorem rway_any {pages : List Str} (hS : Sml pages) (root : Int) (h0 : 0 ≤ root) (h1 : root ≤ 15) : ∃ o b, To (fun n => M.r14_Way n pages root) (o, b) := by
  obtain ⟨r, q1, q2⟩ := rway_tot hS 16 root (by omega) (by omega) [] (fun r hr => by cases hr) (by simp)
  have q1 : To (fun n => M.r14_Way_loop1 pages n ([] : List Int) root) r := q1
  simp only [M.r14_Way]
  rcases q2 with rfl | ⟨rs, rfl, hg, hl⟩
  · exact ⟨[], false, To.neg (by omega) (To.bind q1 To.pure)⟩
  · have hf := rfwd (pages := pages) (rs.map (·.at_)) rs 0 rfl hg [] [] m0 (by simp [m0]) (by simp [m0]) (by simp [m0]) (by omega) (by simp; omega) (by simp; omega) (by simp [lens]; omega)
    cases ha : accW rs [] [] m0 with
    | none => exact ⟨[], false, To.neg (by omega) (To.bind q1 (To.bind (hf.2 ha) To.pure))⟩
    | some x => obtain ⟨t, p, m'⟩ := x; exact ⟨t, _, To.neg (by omega) (To.bind q1 (To.bind (hf.1 t p m' ha) To.pure))⟩
theorem load_any {s : pagestore_Store} (hd : s.down_ = false) (hS : Sml s.pages_) (h0 : 0 ≤ s.root_) (h1 : s.root_ ≤ 15) :
    ∃ ts mk e, To (fun n => M.journal_load n s) (ts, mk, e) ∧ (e = 17 ∨ (e = 0 ∧ ∃ o, To (fun n => M.r14_Way n s.pages_ s.root_) (o, true))) := by
  obtain ⟨r, q1, q2⟩ := cway_tot hd hS 16 s.root_ (by omega) (by omega) [] (by simp)
  have hF : M.pagestore_Store_Failed s = some false := by unfold M.pagestore_Store_Failed; rw [hd]
  simp only [M.journal_load]
  rcases q2 with rfl | ⟨rs, rfl, hl, hg, hr⟩
  · have hw : To (fun n => M.journal_way n s) ([], false) := by
      simp only [M.journal_way, M.pagestore_Store_Root]
      exact To.bindS rfl (To.bind q1 To.pure)
    exact ⟨_, _, 17, To.bindS hF (To.neg (by simp) (To.bind hw (To.pos rfl To.pure))), .inl rfl⟩
  · have hw : To (fun n => M.journal_way n s) (rs.reverse, true) := by
      simp only [M.journal_way, M.pagestore_Store_Root]
      exact To.bindS rfl (To.bind q1 (To.pure.of (by simp)))
    have hgood : ∀ r ∈ rs.reverse, Good s.pages_ r := fun r hm => (hg r (List.mem_reverse.1 hm)).1
    have hfacts : ∀ r ∈ rs.reverse, r.at_ ≤ 15 ∧ 0 ≤ r.at_ ∧ r.text_.length ≤ 1000 ∧ (r.sign_ = [43] ∨ r.sign_ = [46]) := fun r hm => by
      obtain ⟨⟨k, w0, w1, g1, g2, g3, g4, g5⟩, hs⟩ := hg r (List.mem_reverse.1 hm)
      exact ⟨by omega, by omega, g5, hs⟩
    have hlr : rs.reverse.length = rs.length := List.length_reverse
    have hc := cload (v := zjournal_mark) rs.reverse [] [] m0 (Ch.nil (pages := [])).ok hfacts (by simp; omega) (by simp; omega) (by simp [lens]; omega)
    have hway := hr [] (by simp)
    rw [List.append_nil] at hway
    have hf := rfwd (pages := s.pages_) (rs.reverse.map (·.at_)) rs.reverse 0 rfl hgood [] [] m0 (by simp [m0]) (by simp [m0]) (by simp [m0]) (by omega) (by simp; omega) (by simp; omega) (by simp [lens]; omega)
    cases ha : accW rs.reverse [] [] m0 with
    | none =>
      obtain ⟨mk, hk⟩ := hc.2 ha
      exact ⟨_, _, 17, To.bindS hF (To.neg (by simp) (To.bind hw (To.neg (by simp) (To.bind hk To.pure)))), .inl rfl⟩
    | some x =>
      obtain ⟨t, p, m'⟩ := x
      have hk := hc.1 t p m' ha
      have hk2 := hf.1 t p m' ha
      by_cases hp : p = []
      · subst hp
        refine ⟨_, _, 0, To.bindS hF (To.neg (by simp) (To.bind hw (To.neg (by simp) (To.bind hk (To.neg (by simp) To.pure))))), .inr ⟨rfl, t, ?_⟩⟩
        simp only [M.r14_Way]
        exact To.neg (by omega) (To.bind hway (To.bind hk2 (To.pure.of (by simp))))
      · have hpl := List.length_pos_iff.2 hp
        exact ⟨_, _, 17, To.bindS hF (To.neg (by simp) (To.bind hw (To.neg (by simp) (To.bind hk (To.pos (by omega) To.pure))))), .inl rfl⟩
theorem rtext_one {t : Str} (ht : t.length ≤ 400) {m : journal_mark} (h0 : m.sum_.length ≤ 16) (h1 : -1 ≤ m.page_) (h2 : m.page_ ≤ 15) (first : Nat) (hf : first ≤ 100) :
    To (fun n => M.r14_Text n t m.page_ m.sum_ (first : Int)) ([pgT m [46] t], smm m [46] t) := by
  have hc : cutP t = [t] := cutP_le (by omega)
  have hcut := rcut_ok t (by omega)
  rw [hc] at hcut
  have hpg := r14_page h0 h1 h2 [46] t (by simp) (by omega)
  simp only [M.r14_Text]
  refine To.bind hcut (To.bind (a := (smm m [46] t, [pgT m [46] t])) (To.succ ?_) To.pure)
  simp only [M.r14_Text_loop1]
  refine To.pos (by simp) (To.bindS (a := ([46] : Str)) rfl (To.bindS rfl (To.bind hpg (To.bindS rfl (To.bindS (addC_eq (by omega) (by omega)) (To.succ ?_))))))
  simp only [M.r14_Text_loop1]
  exact To.neg (by simp) To.pure
theorem corr_loop (l : List Str) : ∀ (xs : List Str) (i : Nat), l.drop i = xs → (∀ x ∈ xs, x.length ≤ 400) → ∀ (pages : List Str) (m : journal_mark), m.sum_.length ≤ 16 → m.page_ = (pages.length : Int) - 1 → pages.length + xs.length ≤ 12 → (∀ p ∈ pages, p.length ≤ 900) →
    ∃ out, To (fun n => M.law14_JournalCorruption_loop1 l n pages m.page_ m.sum_ (i : Int)) out ∧ out.length = pages.length + xs.length ∧ ∀ p ∈ out, p.length ≤ 900
  | [], i, hx, hs, pages, m, q1, q2, hn, hp => ⟨pages, To.succ (by simp only [M.law14_JournalCorruption_loop1]; exact To.neg (drop_end hx) To.pure), by simp, hp⟩
  | x :: xs, i, hx, hs, pages, m, q1, q2, hn, hp => by
    simp only [List.length_cons] at hn
    have hx0 := hs x List.mem_cons_self
    have ht := rtext_one hx0 q1 (by omega) (by omega) pages.length (by omega)
    have hl : (smm m [46] x).length = 16 := Sm_len _
    have hnl := nm_len (p := m.page_) (by omega) (by omega)
    have hpl : (pgT m [46] x).length ≤ 900 := by simp [pgT, hl]; omega
    obtain ⟨out, h1, h2, h3⟩ := corr_loop l xs (i + 1) (drop_next hx) (fun y hy => hs y (List.mem_cons_of_mem _ hy)) (pages ++ [pgT m [46] x]) ⟨(pages.length : Int), smm m [46] x⟩ (by rw [hl]; exact Nat.le_refl _) (by simp) (by simp; omega) (fun p hp' => by
      rcases List.mem_append.1 hp' with h | h
      · exact hp p h
      · rw [List.mem_singleton.1 h]; exact hpl)
    refine ⟨out, To.succ ?_, by rw [h2]; simp; omega, h3⟩
    simp only [M.law14_JournalCorruption_loop1]
    rw [cast_succ]
    refine To.pos (drop_lt hx) (To.bindS (drop_idx hx) (To.bind ht (To.bindS (appC_eq (by simp; omega)) (To.bindS (a := (pages.length : Int)) ?_ h1))))
    rw [subC_eq (by simp <;> omega) (by simp <;> omega)]
    congr 1; simp
theorem laid_loop (pages : List Str) : ∀ (xs : List Str) (i : Nat), pages.drop i = xs → (∀ x ∈ xs, x.length ≤ 1000) → ∀ (s : pagestore_Store), s.down_ = false → s.fuse_ = -1 → s.pages_.length + xs.length ≤ 100 →
    To (fun n => M.law14_laid_loop1 pages n (i : Int) s) (.inl (⟨s.pages_ ++ xs, s.lasting_, s.root_, -1, false⟩ : pagestore_Store))
  | [], i, hx, hs, s, hd, hf, hn => To.succ (by
      simp only [M.law14_laid_loop1]
      refine To.neg (drop_end hx) (To.pure.of ?_)
      cases s
      simp only at hd hf ⊢
      rw [hd, hf, List.append_nil])
  | x :: xs, i, hx, hs, s, hd, hf, hn => by
    simp only [List.length_cons] at hn
    have hx0 := hs x List.mem_cons_self
    have ha := sapp_ok (s := s) (text := x) hd (by omega) (by omega) (by rw [hf]; decide) (by rw [hf]; decide)
    have ih := laid_loop pages xs (i + 1) (drop_next hx) (fun y hy => hs y (List.mem_cons_of_mem _ hy)) ({ s with pages_ := s.pages_ ++ [x], fuse_ := fz s.fuse_ } : pagestore_Store) hd (by show fz s.fuse_ = -1; rw [hf]; rfl) (by simp; omega)
    refine To.succ ?_
    simp only [M.law14_laid_loop1]
    rw [cast_succ]
    exact To.pos (drop_lt hx) (To.bindS (drop_idx hx) (To.bindS ha (To.neg (by simp) (ih.of (by simp)))))
theorem laid_ok (pages : List Str) (hn : pages.length ≤ 15) (hs : ∀ p ∈ pages, p.length ≤ 1000) (root : Nat) (hr : root < pages.length) :
    To (fun n => M.law14_laid n pages (root : Int)) (some (⟨pages, (pages.length : Int), (root : Int), -1, false⟩ : pagestore_Store)) := by
  have hl := laid_loop pages pages 0 rfl hs s0 rfl rfl (by show 0 + _ ≤ _; omega)
  have hset : M.pagestore_Store_SetRoot (⟨pages, 0, -1, -1, false⟩ : pagestore_Store) (root : Int) = some (0, (⟨pages, (pages.length : Int), (root : Int), -1, false⟩ : pagestore_Store)) := by
    unfold M.pagestore_Store_SetRoot M.pagestore_Store_there
    rw [if_neg (by simp), if_pos (by omega)]
    have : (decide ((root : Int) < (pages.length : Int))) = true := decide_eq_true (by omega)
    simp only [Option.bind_some, this]
    rw [if_neg (by decide)]
    rfl
  simp only [M.law14_laid]
  exact To.bindS new_eq (To.bindS rfl (To.bind hl (To.pos (by omega) (To.bindS hset (To.neg (by simp) To.pure)))))
theorem corruption_true (l : List Str) (page at0 by0 : Int) : To (fun n => M.law14_JournalCorruption n l page at0 by0) true := by
  simp only [M.law14_JournalCorruption]
  refine To.bind awake14 (To.neg (by decide) ?_)
  obtain ⟨b, hb, hs⟩ := short_to l
  cases b with
  | false => exact To.bind (a := true) (To.bind hb (To.pos rfl To.pure)) (To.pos rfl To.pure)
  | true =>
  obtain ⟨h1, h2⟩ := hs rfl
  by_cases hl0 : (l.length : Int) = 0
  · exact To.bind (a := true) (To.bind hb (To.neg (by simp) (To.pos hl0 To.pure))) (To.pos rfl To.pure)
  by_cases hb0 : by0 = 0
  · exact To.bind (a := true) (To.bind hb (To.neg (by simp) (To.neg hl0 (To.pure.of (by rw [decide_eq_true hb0]))))) (To.pos rfl To.pure)
  refine To.bind (a := false) (To.bind hb (To.neg (by simp) (To.neg hl0 (To.pure.of (by rw [decide_eq_false hb0]))))) (To.neg (by simp) ?_)
  obtain ⟨pages, a1, a2, a3⟩ := corr_loop l l 0 rfl h1 [] m0 (by simp [m0]) (by simp [m0]) (by simpa using h2) (fun p hp => by cases hp)
  refine To.bind a1 ?_
  by_cases c1 : page < 0
  · exact To.bindS (a := true) (if_pos c1) (To.pos rfl To.pure)
  by_cases c2 : (pages.length : Int) ≤ page
  · exact To.bindS (a := true) (by rw [if_neg c1, if_pos c2]) (To.pos rfl To.pure)
  by_cases c3 : at0 < 0
  · exact To.bindS (a := true) (by rw [if_neg c1, if_neg c2, if_pos c3]) (To.pos rfl To.pure)
  obtain ⟨k, rfl⟩ : ∃ k : Nat, page = (k : Int) := ⟨page.toNat, by omega⟩
  have hk : k < pages.length := by omega
  have hget : idx pages (k : Int) = some pages[k] := by rw [idx_nat, List.getElem?_eq_getElem hk]
  have hpk := a3 pages[k] (List.getElem_mem hk)
  by_cases c4 : (pages[k].length : Int) ≤ at0
  · exact To.bindS (a := true) (by rw [if_neg c1, if_neg c2, if_neg c3, hget]; show some (decide _) = _; rw [decide_eq_true c4]) (To.pos rfl To.pure)
  refine To.bindS (a := false) (by rw [if_neg c1, if_neg c2, if_neg c3, hget]; show some (decide _) = _; rw [decide_eq_false c4]) (To.neg (by simp) (To.bindS hget ?_))
  obtain ⟨i, rfl⟩ : ∃ i : Nat, at0 = (i : Int) := ⟨at0.toNat, by omega⟩
  have hbl : (bytesOf pages[k]).length = pages[k].length := by simp [bytesOf]
  have hi : i < (bytesOf pages[k]).length := by rw [hbl]; omega
  have hbi : idx (bytesOf pages[k]) (i : Int) = some ((bytesOf pages[k])[i]) := by rw [idx_nat, List.getElem?_eq_getElem hi]
  have hset : setC (bytesOf pages[k]) (i : Int) (xor8 ((bytesOf pages[k])[i]) by0) = some ((bytesOf pages[k]).set i (xor8 ((bytesOf pages[k])[i]) by0)) := by
    unfold setC
    rw [if_pos ⟨by omega, by simpa using hi⟩, Int.toNat_natCast]
  refine To.bindS hbi (To.bindS hbi (To.bindS hset (To.bindS hget ?_)))
  have hwl : (strOf ((bytesOf pages[k]).set i (xor8 ((bytesOf pages[k])[i]) by0))).length ≤ 900 := by simp [strOf, hbl]; omega
  generalize strOf ((bytesOf pages[k]).set i (xor8 ((bytesOf pages[k])[i]) by0)) = w at hwl
  have hset2 : setC pages (k : Int) w = some (pages.set k w) := by
    unfold setC
    rw [if_pos ⟨by omega, by simpa using hk⟩, Int.toNat_natCast]
  refine To.bindS hset2 ?_
  have hnl : (pages.set k w).length = pages.length := by simp
  have hsm : ∀ p ∈ pages.set k w, p.length ≤ 1000 := fun p hp => by
    rcases List.mem_or_eq_of_mem_set hp with h | h
    · have := a3 p h; omega
    · rw [h]; omega
  generalize pages.set k w = q at hnl hsm
  have hql : q.length = l.length := by rw [hnl, a2]; simp
  have hS : Sml q := ⟨by omega, hsm⟩
  have hsub : subC (q.length : Int) (1 : Int) = some ((q.length - 1 : Nat) : Int) := by rw [subC_eq (by omega) (by omega)]; congr 1; omega
  obtain ⟨o, b, hway⟩ := rway_any hS ((q.length - 1 : Nat) : Int) (by omega) (by omega)
  refine To.bindS hsub (To.bind hway ?_)
  cases b with
  | true => exact To.pos rfl To.pure
  | false =>
  have hlaid := laid_ok q (by omega) hsm (q.length - 1) (by omega)
  obtain ⟨ts, mk, e, hload, hres⟩ := load_any (s := (⟨q, (q.length : Int), ((q.length - 1 : Nat) : Int), -1, false⟩ : pagestore_Store)) rfl hS (by show (0 : Int) ≤ ((q.length - 1 : Nat) : Int); omega) (by show ((q.length - 1 : Nat) : Int) ≤ 15; omega)
  have he : e = 17 := by
    rcases hres with h | ⟨_, o', h⟩
    · exact h
    · have := hway.det h
      cases this
  subst he
  have hopen : To (fun n => M.journal_Open n (⟨q, (q.length : Int), ((q.length - 1 : Nat) : Int), -1, false⟩ : pagestore_Store)) (none, 17) := by
    simp only [M.journal_Open]
    exact To.bind hload (To.pos (by simp) To.pure)
  have hver : To (fun n => M.journal_Verify n (⟨q, (q.length : Int), ((q.length - 1 : Nat) : Int), -1, false⟩ : pagestore_Store)) (0, 17) := by
    simp only [M.journal_Verify]
    exact To.bind hload (To.pos (by simp) To.pure)
  exact To.neg (by simp) (To.bindS hsub (To.bind hlaid (To.neg (by simp) (To.bindS rfl (To.bind hopen (To.bind hver (To.pos rfl (To.pure.of rfl))))))))
end Go.Proofs.YtkobngongonplaaGreatDoor
