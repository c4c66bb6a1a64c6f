/-
  The words of valid citations, and that the reader finds them: completeness of the longest.
-/
import Derived.Test.YtnmkblpbmoikpaaDoorPd
set_option linter.unusedVariables false
set_option linter.unusedSimpArgs false
namespace Go.Proofs.YtnmkblpbmoikpaaDoor
open Go Go.Dec
def ofW : Str := [111, 102]
def gwB (w : Str) : Bool := !w.isEmpty && w.all (fun b => !signB b && decide (b ≠ 32)) && decide (w ≠ ofW)
def GW (w : Str) : Prop := gwB w = true
theorem gw_ne {w : Str} (h : GW w) : w ≠ [] := by
  rintro rfl
  have h : gwB [] = true := h
  exact absurd h (by decide)
theorem gw_all {w : Str} (h : GW w) : ∀ b ∈ w, signB b = false ∧ b ≠ 32 := by
  unfold GW gwB at h
  simp only [Bool.and_eq_true] at h
  intro b hb
  have := List.all_eq_true.1 h.1.2 b hb
  simpa using this
theorem gw_of {w : Str} (h : GW w) : w ≠ ofW := by
  rintro rfl
  have h : gwB ofW = true := h
  exact absurd h (by decide)
theorem gw_last {w : Str} (h : GW w) (b : UInt8) (hb : w.getLast? = some b) : signB b = false := (gw_all h b (List.mem_of_getLast? hb)).1
theorem sg_good {k : Int} (h1 : 1 ≤ k) (h7 : k ≤ 7) : GW (sg k) := by
  rcases seven h1 h7 with rfl | rfl | rfl | rfl | rfl | rfl | rfl <;> (unfold GW; decide)
theorem pl_good {k : Int} (h1 : 1 ≤ k) (h7 : k ≤ 7) (h6 : k ≠ 6) : GW (pl k) := by
  rcases seven h1 h7 with rfl | rfl | rfl | rfl | rfl | rfl | rfl
  · unfold GW; decide
  · unfold GW; decide
  · unfold GW; decide
  · unfold GW; decide
  · unfold GW; decide
  · exact absurd rfl h6
  · unfold GW; decide
theorem dc_good {b : UInt8} (h : isDig b = true ∨ isCap b = true) : signB b = false ∧ b ≠ 32 ∧ b ≠ 111 := by
  have hb : (48 ≤ b.toNat ∧ b.toNat ≤ 57) ∨ (65 ≤ b.toNat ∧ b.toNat ≤ 90) := by
    rcases h with h | h
    · unfold isDig at h; simp only [Bool.and_eq_true, decide_eq_true_eq] at h; exact .inl h
    · unfold isCap at h; simp only [Bool.and_eq_true, decide_eq_true_eq] at h; exact .inr h
  have ne : ∀ c : UInt8, (c.toNat < 48 ∨ (57 < c.toNat ∧ c.toNat < 65) ∨ 90 < c.toNat) → b ≠ c := fun c hc e => by subst e; omega
  refine ⟨?_, ne 32 (by decide), ne 111 (by decide)⟩
  unfold signB
  simp [ne 44 (by decide), ne 59 (by decide), ne 46 (by decide), ne 58 (by decide), ne 41 (by decide)]
theorem lab_bytes {s : Str} (h : labB s = true) : ∀ b ∈ s, isDig b = true ∨ isCap b = true := by
  unfold labB at h
  simp only [Bool.and_eq_true] at h
  have hall := List.all_eq_true.1 h.2
  intro b hb
  have : s = s.take (s.takeWhile isDig).length ++ s.drop (s.takeWhile isDig).length := (List.take_append_drop _ _).symm
  rw [this] at hb
  rcases List.mem_append.1 hb with hb | hb
  · left
    have ht : s.take (s.takeWhile isDig).length = s.takeWhile isDig := by
      have hp : s.takeWhile isDig <+: s := List.takeWhile_prefix _
      exact (List.prefix_iff_eq_take.1 hp).symm
    rw [ht] at hb
    exact List.all_eq_true.1 List.all_takeWhile _ hb
  · exact .inr (hall b hb)
theorem lab_good {s : Str} (h : labB s = true) : GW s := by
  have hb := lab_bytes h
  have hne := lab_ne h
  unfold GW gwB
  simp only [Bool.and_eq_true, decide_eq_true_eq]
  refine ⟨⟨by simpa using hne, List.all_eq_true.2 fun b hm => ?_⟩, ?_⟩
  · obtain ⟨h1, h2, _⟩ := dc_good (hb b hm)
    simp [h1, h2]
  · rintro rfl
    exact (dc_good (hb 111 (by decide))).2.2 rfl
theorem bk_good : GW bkW := by unfold GW; decide
theorem this_good : GW thisW := by unfold GW; decide
theorem the_good : GW theW := by unfold GW; decide
theorem said_good : GW saidW := by unfold GW; decide
theorem old_good : GW oldW := by unfold GW; decide
theorem to_good : GW toW := by unfold GW; decide
def Nice (is : Str → Bool) : Prop := ∀ (s : Str) (b : UInt8), signB b = true → is (s ++ [b]) = false
theorem nice_just {w : Str} (h : GW w) : Nice (fun s => s == w) := fun s b hb => by
  by_cases e : s ++ [b] = w
  · have := gw_last h b (by rw [← e]; simp)
    rw [this] at hb; cases hb
  · simpa using e
theorem nice_lab : Nice labB := fun s b hb => by
  by_cases e : labB (s ++ [b]) = true
  · have := gw_last (lab_good e) b (by simp)
    rw [this] at hb; cases hb
  · simpa using e
theorem nice_kind {L : List Str} (h : ∀ w ∈ L, w = [] ∨ GW w) : Nice (isK L) := fun s b hb => by
  by_cases e : isK L (s ++ [b]) = true
  · obtain ⟨m, _, h2, _⟩ := kd_word e
    rcases h _ (List.mem_of_getElem? h2) with h3 | h3
    · simp at h3
    · have := gw_last h3 b (by simp)
      rw [this] at hb; cases hb
  · simpa using e
theorem sgL_good : ∀ w ∈ sgL, w = [] ∨ GW w := by
  have : sgL.all (fun w => w.isEmpty || gwB w) = true := by decide
  intro w hw
  have := List.all_eq_true.1 this w hw
  simpa [GW] using this
theorem plL_good : ∀ w ∈ plL, w = [] ∨ GW w := by
  have : plL.all (fun w => w.isEmpty || gwB w) = true := by decide
  intro w hw
  have := List.all_eq_true.1 this w hw
  simpa [GW] using this
theorem nice_sg : Nice (isK sgL) := nice_kind sgL_good
theorem nice_pl : Nice (isK plL) := nice_kind plL_good
theorem kd_sg {k : Int} (h1 : 1 ≤ k) (h7 : k ≤ 7) : kdI sgL (sg k) = k := by
  rcases seven h1 h7 with rfl | rfl | rfl | rfl | rfl | rfl | rfl <;> decide
theorem kd_pl {k : Int} (h1 : 1 ≤ k) (h7 : k ≤ 7) (h6 : k ≠ 6) : kdI plL (pl k) = k := by
  rcases seven h1 h7 with rfl | rfl | rfl | rfl | rfl | rfl | rfl
  · decide
  · decide
  · decide
  · decide
  · decide
  · exact absurd rfl h6
  · decide
theorem isK_sg {k : Int} (h1 : 1 ≤ k) (h7 : k ≤ 7) : isK sgL (sg k) = true := by
  unfold isK; rw [kd_sg h1 h7]; exact decide_eq_true (by omega)
theorem isK_pl {k : Int} (h1 : 1 ≤ k) (h7 : k ≤ 7) (h6 : k ≠ 6) : isK plL (pl k) = true := by
  unfold isK; rw [kd_pl h1 h7 h6]; exact decide_eq_true (by omega)
theorem pl_no {k : Int} (h1 : 1 ≤ k) (h7 : k ≤ 7) : isK sgL (pl k) = false ∧ pl k ≠ bkW ∧ pl k ≠ thisW ∧ pl k ≠ theW ∧ pl k ≠ oldW := by
  rcases seven h1 h7 with rfl | rfl | rfl | rfl | rfl | rfl | rfl <;> decide
theorem sg_no {k : Int} (h1 : 1 ≤ k) (h7 : k ≤ 7) : sg k ≠ bkW ∧ sg k ≠ thisW ∧ sg k ≠ theW ∧ sg k ≠ oldW := by
  rcases seven h1 h7 with rfl | rfl | rfl | rfl | rfl | rfl | rfl <;> decide
def Has (l : List Str) (e : Bool) : Nat → List Str → Prop
  | _, [] => True
  | i, [w] => (e = false ∧ l[i]? = some w) ∨ (e = true ∧ ∃ b, l[i]? = some (w ++ [b]) ∧ signB b = true)
  | i, w :: w2 :: ws => l[i]? = some w ∧ Has l e (i + 1) (w2 :: ws)
theorem Has.tail {l : List Str} {e : Bool} {i : Nat} {w : Str} {ws : List Str} (h : Has l e i (w :: ws)) : Has l e (i + 1) ws := by
  cases ws with
  | nil => trivial
  | cons w2 ws => exact h.2
theorem Has.fst {l : List Str} {e : Bool} {i : Nat} {w w2 : Str} {ws : List Str} (h : Has l e i (w :: w2 :: ws)) : l[i]? = some w := h.1
theorem has_false {l : List Str} : ∀ (ws : List Str) (i : Nat), (∀ (k : Nat) (v : Str), ws[k]? = some v → l[i + k]? = some v) → Has l false i ws
  | [], i, _ => trivial
  | [w], i, h => .inl ⟨rfl, h 0 w rfl⟩
  | w :: w2 :: ws, i, h => ⟨h 0 w rfl, has_false (w2 :: ws) (i + 1) fun k v hv => by
      rw [show i + 1 + k = i + (k + 1) by omega]; exact h (k + 1) v hv⟩
theorem has_true {l : List Str} {s : Str} {b : UInt8} (hb : signB b = true) : ∀ (ini : List Str) (i : Nat), (∀ (k : Nat) (v : Str), (ini ++ [s ++ [b]])[k]? = some v → l[i + k]? = some v) → Has l true i (ini ++ [s])
  | [], i, h => .inr ⟨rfl, b, h 0 _ rfl, hb⟩
  | [w], i, h => ⟨h 0 w rfl, .inr ⟨rfl, b, h 1 _ rfl, hb⟩⟩
  | w :: w2 :: ws, i, h => ⟨h 0 w rfl, has_true hb (w2 :: ws) (i + 1) fun k v hv => by
      rw [show i + 1 + k = i + (k + 1) by omega]; exact h (k + 1) v hv⟩
theorem Took.has {l ws : List Str} {i j : Nat} {e : Bool} (t : Took l i j e ws) : Has l e i ws := by
  obtain ⟨_, vs, _, hat, hc⟩ := t
  rcases hc with ⟨rfl, rfl⟩ | ⟨rfl, ini, s, b, rfl, rfl, hb⟩
  · exact has_false _ _ hat
  · exact has_true hb _ _ hat
theorem Has.lt {l : List Str} {e : Bool} : ∀ {ws : List Str} {i : Nat}, Has l e i ws → ws ≠ [] → i + ws.length ≤ l.length
  | [], i, _, h => absurd rfl h
  | [w], i, h, _ => by
    have : ∃ v, l[i]? = some v := by
      rcases h with ⟨_, h⟩ | ⟨_, b, h, _⟩
      · exact ⟨_, h⟩
      · exact ⟨_, h⟩
    obtain ⟨v, hv⟩ := this
    have := (List.getElem?_eq_some_iff.1 hv).1
    simp; omega
  | w :: w2 :: ws, i, h, _ => by
    have := Has.lt h.2 (by simp)
    simp at this ⊢; omega
theorem Has.at {l : List Str} {e : Bool} : ∀ {ws : List Str} {i : Nat}, Has l e i ws → ∀ (k : Nat), k < ws.length → ∃ w ∈ ws, l[i + k]? = some w ∨ ∃ b, l[i + k]? = some (w ++ [b]) ∧ signB b = true
  | [], i, _, k, hk => by simp at hk
  | [w], i, h, k, hk => by
    have : k = 0 := by simp at hk; omega
    subst this
    refine ⟨w, List.mem_cons_self, ?_⟩
    rcases h with ⟨_, h⟩ | ⟨_, b, h, hb⟩
    · exact .inl h
    · exact .inr ⟨b, h, hb⟩
  | w :: w2 :: ws, i, h, k, hk => by
    cases k with
    | zero => exact ⟨w, List.mem_cons_self, .inl h.1⟩
    | succ k =>
      obtain ⟨x, hx, hr⟩ := Has.at h.2 k (by simp at hk ⊢; omega)
      rw [show i + 1 + k = i + (k + 1) by omega] at hr
      exact ⟨x, List.mem_cons_of_mem _ hx, hr⟩
theorem has_det {l : List Str} {e e' : Bool} : ∀ {ws ws' : List Str} {i : Nat}, Has l e i ws → Has l e' i ws' → ws.length = ws'.length → (∀ w ∈ ws, GW w) → (∀ w ∈ ws', GW w) → ws = ws'
  | [], [], _, _, _, _, _, _ => rfl
  | [], _ :: _, _, _, _, hl, _, _ => by simp at hl
  | _ :: _, [], _, _, _, hl, _, _ => by simp at hl
  | [w], [w'], i, h, h', _, g, g' => by
    have g := g w List.mem_cons_self
    have g' := g' w' List.mem_cons_self
    have nt : ∀ (x y : Str) (b : UInt8), GW x → x = y ++ [b] → signB b = true → False := fun x y b gx e hb => by
      have := gw_last gx b (by rw [e]; simp)
      rw [this] at hb; cases hb
    rcases h with ⟨_, h⟩ | ⟨_, b, h, hb⟩ <;> rcases h' with ⟨_, h'⟩ | ⟨_, b', h', hb'⟩ <;> rw [h] at h'
    · cases h'; rfl
    · exact (nt w w' b' g (Option.some.inj h') hb').elim
    · exact (nt w' w b g' (Option.some.inj h').symm hb).elim
    · have := Option.some.inj h'
      have := (List.append_inj' this rfl).1
      rw [this]
  | [_], _ :: _ :: _, _, _, _, hl, _, _ => by simp at hl
  | _ :: _ :: _, [_], _, _, _, hl, _, _ => by simp at hl
  | w :: w2 :: ws, w' :: w2' :: ws', i, h, h', hl, g, g' => by
    have e1 : w = w' := Option.some.inj (h.1.symm.trans h'.1)
    have e2 := has_det h.2 h'.2 (by simpa using hl) (fun x hx => g x (List.mem_cons_of_mem _ hx)) (fun x hx => g' x (List.mem_cons_of_mem _ hx))
    rw [e1, e2]
theorem wordF_hit {l : List Str} {is : Str → Bool} (hn : Nice is) {e : Bool} {i : Nat} {w : Str} {ws : List Str} (h : Has l e i (w :: ws)) (hw : is w = true) : wordF l is i false = some (w, ws.isEmpty && e) := by
  unfold wordF
  rw [if_neg (by simp)]
  cases ws with
  | nil =>
    rcases h with ⟨rfl, h⟩ | ⟨rfl, b, h, hb⟩
    · rw [h]; simp only; rw [if_pos hw]; rfl
    · rw [h]; simp only
      rw [if_neg (by rw [hn _ _ hb]; simp), List.getLast?_concat]
      simp only
      rw [List.dropLast_concat, if_pos ⟨hb, hw⟩]; rfl
  | cons w2 ws => rw [h.1]; simp only; rw [if_pos hw]; rfl
theorem wordF_miss {l : List Str} {is : Str → Bool} {i : Nat} {w : Str} (h : l[i]? = some w) (hg : GW w) (hw : is w = false) : wordF l is i false = none := by
  unfold wordF
  rw [if_neg (by simp), h]
  simp only
  rw [if_neg (by rw [hw]; simp)]
  cases hb : w.getLast? with
  | none => rfl
  | some b =>
    simp only
    rw [if_neg (by rw [gw_last hg b hb]; simp)]
theorem and_e (ws : List Str) (e : Bool) (h : ws ≠ []) : (ws.isEmpty && e) = false := by
  cases ws with
  | nil => exact absurd rfl h
  | cons => rfl
theorem stepF_hit {l : List Str} {e : Bool} {i : Nat} {s : api_Step} {ws : List Str} (hs : stepB s = true) (h : Has l e i (toldS s ++ ws)) : stepF l sgL i false = some (s, ws.isEmpty && e) ∧ Has l e (i + 2) ws := by
  rw [told_step hs] at h
  have h : Has l e i (sg s.Kind :: s.Label :: ws) := h
  have hh := hs
  unfold stepB at hh
  simp only [Bool.and_eq_true, decide_eq_true_eq] at hh
  refine ⟨?_, h.tail.tail⟩
  unfold stepF
  rw [wordF_hit nice_sg h (isK_sg hh.1.1 hh.1.2)]
  simp only
  rw [and_e _ _ (by simp), wordF_hit nice_lab h.tail hh.2]
  simp only
  rw [kd_sg hh.1.1 hh.1.2]
theorem stepF_miss {l L : List Str} {i : Nat} {w : Str} (h : l[i]? = some w) (hg : GW w) (hw : isK L w = false) : stepF l L i false = none := by
  unfold stepF
  rw [wordF_miss h hg hw]
theorem stepF_ok {l : List Str} {i : Nat} {e e' : Bool} {s : api_Step} (h : stepF l sgL i e = some (s, e')) : stepB s = true := by
  unfold stepF at h
  cases hw : wordF l (isK sgL) i e with
  | none => rw [hw] at h; cases h
  | some q =>
    rw [hw] at h
    simp only at h
    cases hw2 : wordF l labB (i + 1) q.2 with
    | none => rw [hw2] at h; cases h
    | some q2 =>
      rw [hw2] at h
      simp only at h
      obtain ⟨k1, k7, _⟩ := sg_word (wordF_some hw).2.1
      have hl := (wordF_some hw2).2.1
      cases h
      simp [stepB, k1, k7, hl]
theorem more_steps {l : List Str} : ∀ (k : Nat) (p : List api_Step) (i : Nat) (e : Bool), ∃ q, (moreF l k p i e).1 = p ++ q ∧ stepsB q = true
  | 0, p, i, e => ⟨[], by simp [moreF], rfl⟩
  | k + 1, p, i, e => by
    unfold moreF
    cases hs : stepF l sgL i e with
    | none => exact ⟨[], by simp, rfl⟩
    | some r =>
      obtain ⟨s, e'⟩ := r
      obtain ⟨q, h1, h2⟩ := more_steps k (p ++ [s]) (i + 2) e'
      exact ⟨s :: q, by show (moreF l k (p ++ [s]) (i + 2) e').1 = _; rw [h1]; simp, by rw [stepsB, stepF_ok hs, h2]; rfl⟩
theorem toldL_cons (s : api_Step) (q : List api_Step) : toldL (s :: q) = toldS s ++ toldL q := by simp [toldL]
theorem toldL_append (p q : List api_Step) : toldL (p ++ q) = toldL p ++ toldL q := by simp [toldL]
theorem toldS_ne (s : api_Step) : toldS s ≠ [] := by
  unfold toldS
  split
  · simp
  · split <;> simp
theorem toldL_ne {p : List api_Step} (h : p ≠ []) : toldL p ≠ [] := by
  cases p with
  | nil => exact absurd rfl h
  | cons s p => rw [toldL_cons]; simp [toldS_ne]
theorem steps_two : ∀ {q : List api_Step}, stepsB q = true → (toldL q).length = 2 * q.length
  | [], _ => rfl
  | s :: q, h => by
    unfold stepsB at h
    rw [Bool.and_eq_true] at h
    rw [toldL_cons, List.length_append, told_step h.1, steps_two h.2]
    simp; omega
theorem more_far {l : List Str} {e : Bool} : ∀ (q : List api_Step) (rest : List Str) (k : Nat) (p : List api_Step) (i : Nat), stepsB q = true → toldL q ++ rest ≠ [] → q.length ≤ k → Has l e i (toldL q ++ rest) →
    moreF l k p i false = moreF l (k - q.length) (p ++ q) (i + 2 * q.length) (rest.isEmpty && e) ∧ Has l e (i + 2 * q.length) rest
  | [], rest, k, p, i, _, hne, _, h => by
    have hr : rest ≠ [] := by simpa [toldL] using hne
    rw [and_e _ _ hr]
    exact ⟨by simp, by simpa [toldL] using h⟩
  | s :: q, rest, 0, p, i, _, _, hk, _ => by simp at hk
  | s :: q, rest, k + 1, p, i, hs, _, hk, h => by
    unfold stepsB at hs
    rw [Bool.and_eq_true] at hs
    rw [toldL_cons, List.append_assoc] at h
    obtain ⟨h1, h2⟩ := stepF_hit hs.1 h
    rw [moreF, h1]
    simp only
    by_cases hn : toldL q ++ rest = []
    · have hq : q = [] := by
        cases q with
        | nil => rfl
        | cons t q => rw [toldL_cons] at hn; simp [toldS_ne] at hn
      subst hq
      have hr : rest = [] := by simpa [toldL] using hn
      subst hr
      exact ⟨by simp [toldL], trivial⟩
    · rw [and_e _ _ hn]
      obtain ⟨h3, h4⟩ := more_far q rest k (p ++ [s]) (i + 2) hs.2 hn (by simp at hk; omega) h2
      rw [h3]
      refine ⟨by simp; congr 1; omega, ?_⟩
      rw [show i + 2 * (s :: q).length = i + 2 + 2 * q.length by simp; omega]
      exact h4
theorem plain_shape {p : List api_Step} (h : plainB p = true) : ∃ q, stepsB q = true ∧ q ≠ [] ∧ (p = q ∨ p = ⟨0, []⟩ :: q) := by
  unfold plainB at h
  rw [Bool.and_eq_true] at h
  have hb : 0 < (bare p).length := of_decide_eq_true h.1
  refine ⟨bare p, h.2, List.length_pos_iff.1 hb, ?_⟩
  cases p with
  | nil => simp [bare] at hb
  | cons s q =>
    rw [bare.eq_2] at hb ⊢
    by_cases hk : bookB s = true
    · rw [if_pos hk, book_is hk]; exact .inr rfl
    · rw [if_neg hk]; exact .inl rfl
theorem steps_append : ∀ (a b : List api_Step), stepsB (a ++ b) = (stepsB a && stepsB b)
  | [], b => by simp [stepsB]
  | s :: a, b => by simp [stepsB, steps_append a b, Bool.and_assoc]
theorem bare_append {p : List api_Step} (h : p ≠ []) (q : List api_Step) : bare (p ++ q) = bare p ++ q := by
  cases p with
  | nil => exact absurd rfl h
  | cons s p =>
    rw [List.cons_append, bare.eq_2, bare.eq_2]
    split <;> rfl
theorem plain_append {p q : List api_Step} (h : plainB p = true) (hq : stepsB q = true) : plainB (p ++ q) = true := by
  have hne : p ≠ [] := by rintro rfl; exact absurd h (by decide)
  unfold plainB at h ⊢
  rw [Bool.and_eq_true] at h ⊢
  have h1 : 0 < (bare p).length := of_decide_eq_true h.1
  rw [bare_append hne, steps_append, h.2, hq]
  exact ⟨decide_eq_true (by rw [List.length_append]; omega), rfl⟩
theorem book_told : toldL [⟨0, []⟩] = [bkW] := by decide
theorem path_read {l : List Str} {e : Bool} {p q : List api_Step} (rest : List Str) (i : Nat) (hq : stepsB q = true) (hp : p = q ∨ p = ⟨0, []⟩ :: q) (h9 : p.length ≤ 9) (hne : toldL q ++ rest ≠ [])
    (hrest : q = [] → ∀ w ws, rest = w :: ws → ws ≠ [] ∧ GW w ∧ w ≠ bkW) (h : Has l e i (toldL p ++ rest)) :
    pathF l i false = moreF l (9 - p.length) p (i + (toldL p).length) (rest.isEmpty && e) ∧ Has l e (i + (toldL p).length) rest := by
  unfold pathF
  rcases hp with rfl | rfl
  · have hm : wordF l (fun s => s == bkW) i false = none := by
      cases p with
      | nil =>
        cases rest with
        | nil => exact absurd rfl hne
        | cons w ws =>
          obtain ⟨h1, h2, h3⟩ := hrest rfl w ws rfl
          cases ws with
          | nil => exact absurd rfl h1
          | cons w2 ws => exact wordF_miss (w := w) h.1 h2 (by simpa using h3)
      | cons s q =>
        have hs := hq
        unfold stepsB at hs
        rw [Bool.and_eq_true] at hs
        rw [toldL_cons, told_step hs.1] at h
        have h : Has l e i (sg s.Kind :: s.Label :: (toldL q ++ rest)) := by simpa using h
        have hk := (step_ok hs.1)
        have h0 := (sg_no hk.2 hk.1.2.1).1
        exact wordF_miss h.fst (sg_good hk.2 hk.1.2.1) (by simpa using h0)
    rw [hm]
    have := more_far p rest 9 [] i hq hne h9 h
    rw [steps_two hq]
    simpa using this
  · rw [show (⟨0, []⟩ :: q : List api_Step) = [⟨0, []⟩] ++ q from rfl, toldL_append, book_told] at h
    have h : Has l e i (bkW :: (toldL q ++ rest)) := by simpa using h
    rw [wordF_hit (nice_just bk_good) h (by simp)]
    simp only
    rw [and_e _ _ hne]
    have := more_far q rest 8 [⟨0, []⟩] (i + 1) hq hne (by simp at h9; omega) h.tail
    have hl : (toldL (⟨0, []⟩ :: q)).length = 1 + 2 * q.length := by
      rw [show (⟨0, []⟩ :: q : List api_Step) = [⟨0, []⟩] ++ q from rfl, toldL_append, book_told, List.length_append, steps_two hq]; rfl
    rw [hl, show i + (1 + 2 * q.length) = i + 1 + 2 * q.length by omega]
    refine ⟨?_, this.2⟩
    rw [this.1]
    simp
def Far (i j : Nat) (r : api_Cite × Nat × Bool) : Prop := citeB r.1 = true ∧ j ≤ r.2.1
theorem plain_far {l : List Str} {e : Bool} {p : List api_Step} (i : Nat) (h9 : p.length ≤ 9) (hp : plainB p = true) (h : Has l e i (toldL p)) :
    (pathF l i false).1.length ≤ 9 ∧ plainB (pathF l i false).1 = true ∧ i + (toldL p).length ≤ (pathF l i false).2.1 := by
  obtain ⟨q, hq, hn, hs⟩ := plain_shape hp
  have hr := path_read (l := l) (e := e) [] i hq hs h9 (by rw [List.append_nil]; exact toldL_ne hn) (fun e => absurd e hn) (by rw [List.append_nil]; exact h)
  refine ⟨(path_len l i false).2, ?_⟩
  rw [hr.1]
  obtain ⟨q2, h1, h2⟩ := more_steps (l := l) (9 - p.length) p (i + (toldL p).length) (([] : List Str).isEmpty && e)
  have h3 := more_len l (9 - p.length) p (i + (toldL p).length) (([] : List Str).isEmpty && e)
  rw [h1]
  exact ⟨plain_append hp h2, h3.2.2⟩
theorem form1_far {l : List Str} {e : Bool} {c : api_Cite} (i : Nat) (hk : c.Kind = 0) (hc : citeB c = true) (h : Has l e i (wordsB c)) : Far i (i + (wordsB c).length) (form1 l i false) := by
  have h9 := (cite_small hc).1
  rw [cite04 (by omega) (.inl hk), Bool.and_eq_true] at hc
  have hw : wordsB c = toldL c.Path := by simp [wordsB, hk]
  rw [hw] at h ⊢
  obtain ⟨h1, h2, h3⟩ := plain_far i h9 hc.2 h
  unfold form1 Far
  refine ⟨?_, h3⟩
  rw [cite04 (c := ⟨0, (pathF l i false).1, [], 0, 0⟩) (by show ¬ 9 < (pathF l i false).1.length; omega) (.inl rfl), Bool.and_eq_true]
  exact ⟨rfl, h2⟩
theorem form4_far {l : List Str} {e : Bool} {c : api_Cite} (i : Nat) (hk : c.Kind = 4) (hc : citeB c = true) (h : Has l e i (wordsB c)) : Far i (i + (wordsB c).length) (form4 l i false) := by
  have h9 := (cite_small hc).1
  rw [cite04 (by omega) (.inr hk), Bool.and_eq_true] at hc
  have hw : wordsB c = oldW :: toldL c.Path := by simp [wordsB, hk]
  rw [hw] at h ⊢
  have hne : toldL c.Path ≠ [] := toldL_ne (by
    rintro e; rw [e] at hc; exact absurd hc.2 (by decide))
  obtain ⟨h1, h2, h3⟩ := plain_far (i + 1) h9 hc.2 h.tail
  unfold form4 Far
  rw [wordF_hit (nice_just old_good) h (by simp), and_e _ _ hne]
  simp only
  refine ⟨?_, by simp; omega⟩
  rw [cite04 (c := ⟨4, (pathF l (i + 1) false).1, [], 0, 0⟩) (by show ¬ 9 < (pathF l (i + 1) false).1.length; omega) (.inr rfl), Bool.and_eq_true]
  exact ⟨rfl, h2⟩
theorem near_shape {p : List api_Step} (h : nearB p = true) : ∃ k q, p = ⟨k, []⟩ :: q ∧ 1 ≤ k ∧ k ≤ 7 ∧ stepsB q = true := by
  cases p with
  | nil => cases h
  | cons s q =>
    unfold nearB at h
    simp only [Bool.and_eq_true, decide_eq_true_eq] at h
    obtain ⟨k, lb⟩ := s
    have : lb = [] := by simpa using h.1.1.1
    subst this
    exact ⟨k, q, rfl, h.1.1.2, h.1.2, h.2⟩
theorem near_told {k : Int} (h1 : 1 ≤ k) (q : List api_Step) : toldL (⟨k, []⟩ :: q) = sg k :: toldL q := by
  have hb : bookB ⟨k, []⟩ = false := toldS_no (by show k ≠ 0; omega)
  rw [toldL_cons]
  simp [toldS, hb]
theorem beside_far {l : List Str} {e : Bool} {p : List api_Step} (i : Nat) (h9 : p.length ≤ 9) (hp : nearB p = true) (h : Has l e i (toldL p)) :
    (besideF l i false).1.length ≤ 9 ∧ nearB (besideF l i false).1 = true ∧ i + (toldL p).length ≤ (besideF l i false).2.1 := by
  obtain ⟨k, q, rfl, k1, k7, hq⟩ := near_shape hp
  rw [near_told k1] at h ⊢
  have hh : wordF l (isK sgL) i false = some (sg k, (toldL q).isEmpty && e) := wordF_hit nice_sg h (isK_sg k1 k7)
  have near : ∀ q2 : List api_Step, stepsB q2 = true → nearB (⟨k, []⟩ :: q2) = true := fun q2 h2 => by
    simp [nearB, k1, k7, h2]
  unfold besideF
  rw [hh]
  simp only
  rw [kd_sg k1 k7]
  have hlen := more_len l 8 [⟨k, []⟩] (i + 1) ((toldL q).isEmpty && e)
  refine ⟨by simp at hlen ⊢; omega, ?_, ?_⟩
  · obtain ⟨q2, h1, h2⟩ := more_steps (l := l) 8 [⟨k, []⟩] (i + 1) ((toldL q).isEmpty && e)
    rw [h1]
    exact near q2 h2
  · by_cases hqn : q = []
    · subst hqn
      have : (toldL []).length = 0 := rfl
      simp at hlen ⊢
      simp [this]
      exact hlen.2.2
    · have hne := toldL_ne hqn
      rw [and_e _ _ hne]
      have hm := more_far q [] 8 [⟨k, []⟩] (i + 1) hq (by rw [List.append_nil]; exact hne) (by simp at h9; omega) (by rw [List.append_nil]; exact h.tail)
      rw [hm.1]
      have := (more_len l (8 - q.length) ([⟨k, []⟩] ++ q) (i + 1 + 2 * q.length) (([] : List Str).isEmpty && e)).2.2
      rw [List.length_cons, steps_two hq]
      omega
theorem near_ne {p : List api_Step} (h : nearB p = true) : p ≠ [] := by rintro rfl; cases h
theorem form2_far {l : List Str} {e : Bool} {c : api_Cite} (i : Nat) (hk : c.Kind = 2) (hc : citeB c = true) (h : Has l e i (wordsB c)) : Far i (i + (wordsB c).length) (form2 l i false) := by
  have h9 := (cite_small hc).1
  rw [cite23 (by omega) (.inl hk), Bool.and_eq_true] at hc
  have hw : wordsB c = thisW :: toldL c.Path := by simp [wordsB, hk]
  rw [hw] at h ⊢
  have hne : toldL c.Path ≠ [] := toldL_ne (near_ne hc.2)
  obtain ⟨h1, h2, h3⟩ := beside_far (i + 1) h9 hc.2 h.tail
  unfold form2 Far
  rw [wordF_hit (nice_just this_good) h (by simp), and_e _ _ hne]
  simp only
  refine ⟨?_, by simp; omega⟩
  rw [cite23 (c := ⟨2, (besideF l (i + 1) false).1, [], 0, 0⟩) (by show ¬ 9 < (besideF l (i + 1) false).1.length; omega) (.inl rfl), Bool.and_eq_true]
  exact ⟨rfl, h2⟩
theorem form3_far {l : List Str} {e : Bool} {c : api_Cite} (i : Nat) (hk : c.Kind = 3) (hc : citeB c = true) (h : Has l e i (wordsB c)) : Far i (i + (wordsB c).length) (form3 l i false) := by
  have h9 := (cite_small hc).1
  rw [cite23 (by omega) (.inr hk), Bool.and_eq_true] at hc
  have hw : wordsB c = theW :: saidW :: toldL c.Path := by simp [wordsB, hk]
  rw [hw] at h ⊢
  have hne : toldL c.Path ≠ [] := toldL_ne (near_ne hc.2)
  obtain ⟨h1, h2, h3⟩ := beside_far (l := l) (e := e) (i + 2) h9 hc.2 h.tail.tail
  unfold form3 Far
  rw [wordF_hit (nice_just the_good) h (by simp), and_e _ _ (by simp)]
  simp only
  rw [wordF_hit (nice_just said_good) h.tail (by simp), and_e _ _ hne]
  simp only
  refine ⟨?_, by simp at h3 ⊢; omega⟩
  rw [cite23 (c := ⟨3, (besideF l (i + 2) false).1, [], 0, 0⟩) (by show ¬ 9 < (besideF l (i + 2) false).1.length; omega) (.inr rfl), Bool.and_eq_true]
  exact ⟨rfl, h2⟩
theorem last_shape {p : List api_Step} (h : plainB p = true) : ∃ q0 s, stepsB q0 = true ∧ stepB s = true ∧ p = p.dropLast ++ [s] ∧ p.getLast? = some s ∧ (p.dropLast = q0 ∨ p.dropLast = ⟨0, []⟩ :: q0) := by
  obtain ⟨q, hq, hn, hs⟩ := plain_shape h
  have hl : q = q.dropLast ++ [q.getLast hn] := (List.dropLast_concat_getLast hn).symm
  have hq2 := hq
  rw [hl, steps_append, Bool.and_eq_true] at hq2
  refine ⟨q.dropLast, q.getLast hn, hq2.1, by have := hq2.2; simpa [stepsB] using this, ?_⟩
  rcases hs with rfl | rfl
  · exact ⟨hl, List.getLast?_eq_some_getLast hn, .inl rfl⟩
  · have hd : (⟨0, []⟩ :: q : List api_Step).dropLast = ⟨0, []⟩ :: q.dropLast := by
      cases q with
      | nil => exact absurd rfl hn
      | cons => rfl
    refine ⟨?_, ?_, .inr hd⟩
    · rw [hd, List.cons_append, ← hl]
    · cases q with
      | nil => exact absurd rfl hn
      | cons a q => rw [List.getLast?_cons_cons]; exact List.getLast?_eq_some_getLast hn
theorem span_far {l : List Str} {e : Bool} {c : api_Cite} (i : Nat) (hk : c.Kind = 1) (hc : citeB c = true) (h : Has l e i (wordsB c)) : Far i (i + (wordsB c).length) (spanF l i false) := by
  have h9 := (cite_small hc).1
  have hc2 := hc
  rw [cite1 (by omega) hk, Bool.and_eq_true, Bool.and_eq_true] at hc2
  obtain ⟨⟨hp, ht⟩, h6⟩ := hc2
  obtain ⟨q0, s, hq0, hs, hps, hlast, hsh⟩ := last_shape hp
  have hlk : lastKind c.Path = s.Kind := by unfold lastKind; rw [hlast]
  have hll : lastLab c.Path = s.Label := by unfold lastLab; rw [hlast]
  have h6 : s.Kind ≠ 6 := by rw [← hlk]; simpa using h6
  obtain ⟨⟨_, k7, _⟩, k1⟩ := step_ok hs
  have hlab : labB s.Label = true := by unfold stepB at hs; simp only [Bool.and_eq_true] at hs; exact hs.2
  have hw : wordsB c = toldL c.Path.dropLast ++ [pl s.Kind, s.Label, toW, c.To] := by simp [wordsB, hk, tailW, hlk, hll]
  rw [hw] at h ⊢
  have hno := pl_no k1 k7
  obtain ⟨hr, h4⟩ := path_read [pl s.Kind, s.Label, toW, c.To] i hq0 hsh (by rw [List.length_dropLast]; omega) (by simp)
    (fun _ w ws e => by cases e; exact ⟨by simp, pl_good k1 k7 h6, hno.2.1⟩) h
  rw [and_e _ _ (by simp)] at hr
  generalize hj : i + (toldL c.Path.dropLast).length = j at hr h4
  have hstop : ∀ k : Nat, moreF l k c.Path.dropLast j false = (c.Path.dropLast, j, false) := fun k => by
    cases k with
    | zero => rfl
    | succ k =>
      unfold moreF
      rw [stepF_miss h4.1 (pl_good k1 k7 h6) hno.1]
  rw [hstop] at hr
  have hst : stepF l plL j false = some (s, false) := by
    unfold stepF
    rw [wordF_hit nice_pl h4 (isK_pl k1 k7 h6), and_e _ _ (by simp)]
    simp only
    rw [wordF_hit nice_lab h4.tail hlab, and_e _ _ (by simp), kd_pl k1 k7 h6]
  have hto : wordF l (fun x => x == toW) (j + 2) false = some (toW, false) := wordF_hit (nice_just to_good) h4.tail.tail (by simp)
  have hla : wordF l labB (j + 3) false = some (c.To, ([] : List Str).isEmpty && e) := wordF_hit nice_lab h4.tail.tail.tail ht
  unfold spanF Far
  rw [hr]
  simp only
  rw [hst]
  simp only
  rw [hto]
  simp only
  rw [hla]
  simp only
  refine ⟨?_, by simp; omega⟩
  rw [← hps]
  rw [cite1 (c := ⟨1, c.Path, c.To, 0, 0⟩) (by show ¬ 9 < c.Path.length; omega) rfl, Bool.and_eq_true, Bool.and_eq_true]
  exact ⟨⟨hp, ht⟩, by show decide (lastKind c.Path ≠ 6) = true; rw [hlk]; simpa using h6⟩
theorem better_mono (i : Nat) (best : api_Cite) (r : api_Cite × Nat × Bool) : best.At ≤ (better i best r).At := by
  unfold better
  split
  · rename_i h; exact Int.le_of_lt h.2
  · exact Int.le_refl _
theorem better_far {i j : Nat} (best : api_Cite) {r : api_Cite × Nat × Bool} (h : Far i j r) : (j : Int) ≤ (better i best r).At := by
  unfold better
  split
  · have := h.2
    show (j : Int) ≤ (r.2.1 : Int)
    omega
  · rename_i hc
    have h1 : ¬ best.At < (r.2.1 : Int) := fun e => hc ⟨h.1, e⟩
    have := h.2
    omega
theorem kinds_of {c : api_Cite} (h : citeB c = true) : c.Kind = 0 ∨ c.Kind = 1 ∨ c.Kind = 2 ∨ c.Kind = 3 ∨ c.Kind = 4 := by
  by_cases h04 : c.Kind = 0 ∨ c.Kind = 4
  · omega
  · by_cases h1 : c.Kind = 1
    · omega
    · by_cases h23 : c.Kind = 2 ∨ c.Kind = 3
      · omega
      · rw [citeO h04 h1 h23] at h; cases h
theorem long_far {l : List Str} {e : Bool} {c : api_Cite} (i : Nat) (hc : citeB c = true) (h : Has l e i (wordsB c)) : ((i + (wordsB c).length : Nat) : Int) ≤ (longF l i).At := by
  unfold longF
  have up := fun best r => better_mono i best r
  rcases kinds_of hc with hk | hk | hk | hk | hk
  · exact Int.le_trans (better_far _ (form1_far i hk hc h)) (Int.le_trans (up _ _) (Int.le_trans (up _ _) (Int.le_trans (up _ _) (up _ _))))
  · exact Int.le_trans (better_far _ (span_far i hk hc h)) (Int.le_trans (up _ _) (Int.le_trans (up _ _) (up _ _)))
  · exact Int.le_trans (better_far _ (form2_far i hk hc h)) (Int.le_trans (up _ _) (up _ _))
  · exact Int.le_trans (better_far _ (form3_far i hk hc h)) (up _ _)
  · exact better_far _ (form4_far i hk hc h)
theorem steps_good : ∀ {q : List api_Step}, stepsB q = true → ∀ w ∈ toldL q, GW w
  | [], _, w, hw => by simp [toldL] at hw
  | s :: q, h, w, hw => by
    unfold stepsB at h
    rw [Bool.and_eq_true] at h
    have hk := step_ok h.1
    have hlab : labB s.Label = true := by have h1 := h.1; unfold stepB at h1; simp only [Bool.and_eq_true] at h1; exact h1.2
    rw [toldL_cons, told_step h.1] at hw
    rcases List.mem_append.1 hw with hw | hw
    · simp only [List.mem_cons, List.not_mem_nil, or_false] at hw
      rcases hw with rfl | rfl
      · exact sg_good hk.2 hk.1.2.1
      · exact lab_good hlab
    · exact steps_good h.2 w hw
theorem opt_good {p q : List api_Step} (hq : stepsB q = true) (hs : p = q ∨ p = ⟨0, []⟩ :: q) : ∀ w ∈ toldL p, GW w := by
  rcases hs with rfl | rfl
  · exact steps_good hq
  · intro w hw
    rw [show (⟨0, []⟩ :: q : List api_Step) = [⟨0, []⟩] ++ q from rfl, toldL_append, book_told] at hw
    rcases List.mem_append.1 hw with hw | hw
    · simp only [List.mem_cons, List.not_mem_nil, or_false] at hw
      subst hw; exact bk_good
    · exact steps_good hq w hw
theorem plain_good {p : List api_Step} (h : plainB p = true) : ∀ w ∈ toldL p, GW w := by
  obtain ⟨q, hq, _, hs⟩ := plain_shape h
  exact opt_good hq hs
theorem near_good {p : List api_Step} (h : nearB p = true) : ∀ w ∈ toldL p, GW w := by
  obtain ⟨k, q, rfl, k1, k7, hq⟩ := near_shape h
  intro w hw
  rw [near_told k1] at hw
  rcases List.mem_cons.1 hw with rfl | hw
  · exact sg_good k1 k7
  · exact steps_good hq w hw
theorem words_good {c : api_Cite} (h : citeB c = true) : ∀ w ∈ wordsB c, GW w := by
  have h9 := (cite_small h).1
  intro w hw
  rcases kinds_of h with hk | hk | hk | hk | hk
  · rw [cite04 (by omega) (.inl hk), Bool.and_eq_true] at h
    exact plain_good h.2 w (by simpa [wordsB, hk] using hw)
  · rw [cite1 (by omega) hk, Bool.and_eq_true, Bool.and_eq_true] at h
    obtain ⟨⟨hp, ht⟩, h6⟩ := h
    obtain ⟨q0, s, hq0, hs, hps, hlast, hsh⟩ := last_shape hp
    have hlk : lastKind c.Path = s.Kind := by unfold lastKind; rw [hlast]
    have hll : lastLab c.Path = s.Label := by unfold lastLab; rw [hlast]
    have h6 : s.Kind ≠ 6 := by rw [← hlk]; simpa using h6
    obtain ⟨⟨_, k7, _⟩, k1⟩ := step_ok hs
    have hlab : labB s.Label = true := by unfold stepB at hs; simp only [Bool.and_eq_true] at hs; exact hs.2
    have hw2 : wordsB c = toldL c.Path.dropLast ++ [pl s.Kind, s.Label, toW, c.To] := by simp [wordsB, hk, tailW, hlk, hll]
    rw [hw2] at hw
    rcases List.mem_append.1 hw with hw | hw
    · exact opt_good hq0 hsh w hw
    · simp only [List.mem_cons, List.not_mem_nil, or_false] at hw
      rcases hw with rfl | rfl | rfl | rfl
      · exact pl_good k1 k7 h6
      · exact lab_good hlab
      · exact to_good
      · exact lab_good ht
  · rw [cite23 (by omega) (.inl hk), Bool.and_eq_true] at h
    have hw : w = thisW ∨ w ∈ toldL c.Path := by simpa [wordsB, hk] using hw
    rcases hw with rfl | hw
    · exact this_good
    · exact near_good h.2 w hw
  · rw [cite23 (by omega) (.inr hk), Bool.and_eq_true] at h
    have hw : w = theW ∨ w = saidW ∨ w ∈ toldL c.Path := by simpa [wordsB, hk] using hw
    rcases hw with rfl | rfl | hw
    · exact the_good
    · exact said_good
    · exact near_good h.2 w hw
  · rw [cite04 (by omega) (.inr hk), Bool.and_eq_true] at h
    have hw : w = oldW ∨ w ∈ toldL c.Path := by simpa [wordsB, hk] using hw
    rcases hw with rfl | hw
    · exact old_good
    · exact plain_good h.2 w hw
theorem plain_ne' {p : List api_Step} (h : plainB p = true) : p ≠ [] := by rintro rfl; exact absurd h (by decide)
theorem words_ne {c : api_Cite} (h : citeB c = true) : wordsB c ≠ [] := by
  have h9 := (cite_small h).1
  rcases kinds_of h with hk | hk | hk | hk | hk
  · rw [cite04 (by omega) (.inl hk), Bool.and_eq_true] at h
    have : wordsB c = toldL c.Path := by simp [wordsB, hk]
    rw [this]; exact toldL_ne (plain_ne' h.2)
  · simp [wordsB, hk, tailW]
  · simp [wordsB, hk]
  · simp [wordsB, hk]
  · simp [wordsB, hk]
end Go.Proofs.YtnmkblpbmoikpaaDoor
