/-
  Chapter 48: the text of a unit with its citations; where two texts differ.
-/
import Derived.Test.YtclepigknhoonaaPd
set_option linter.unusedVariables false
set_option linter.unusedSimpArgs false
namespace Go.Proofs.Ytclepigknhoonaa
open Go Go.Dec

theorem indexM (l : List api_Meaning) (p : api_Meaning → Bool) : To (fun n => M.slices_IndexFunc_api_Meaning_api_Meaning n l (fun s => some (p s))) (if l.any p then ((l.findIdx p : Nat) : Int) else -1) := by
  have loop : ∀ (xs : List api_Meaning) (i : Nat), l.drop i = xs →
      To (fun n => M.slices_IndexFunc_api_Meaning_api_Meaning_loop1 l (fun s => some (p s)) n (i : Int)) (if xs.any p then .inr ((i + xs.findIdx p : Nat) : Int) else .inl ()) := by
    intro xs
    induction xs with
    | nil =>
      intro i hx
      refine To.succ ?_
      simp only [M.slices_IndexFunc_api_Meaning_api_Meaning_loop1]
      exact To.neg (drop_end hx) (To.pure.of (by simp))
    | cons x xs ih =>
      intro i hx
      refine To.succ ?_
      simp only [M.slices_IndexFunc_api_Meaning_api_Meaning_loop1]
      refine To.pos (drop_lt hx) (To.bindS (drop_idx hx) (To.bindS rfl ?_))
      cases hp : p x with
      | true => exact To.pos rfl (To.pure.of (by simp [hp, List.findIdx_cons]))
      | false =>
        refine To.neg (by simp) ?_
        rw [cast_succ]
        refine (ih (i + 1) (drop_next hx)).of ?_
        simp only [List.any_cons, hp, Bool.false_or, List.findIdx_cons, cond_false]
        split
        · congr 2; omega
        · rfl
  simp only [M.slices_IndexFunc_api_Meaning_api_Meaning]
  refine To.bind (loop l 0 rfl) ?_
  by_cases h : l.any p = true
  · rw [if_pos h, if_pos h]; exact To.pure.of (by simp)
  · rw [if_neg h, if_neg h]; exact To.pure

/-! ## The text of a unit -/

def senseB (id : api_Id) (k : Nat) (s : api_Meaning) : Bool := decide (s.At = id) && decide (s.N = (k : Int))

def rdL (senses : List api_Meaning) (id : api_Id) : List api_Cite → Nat → List (Int × api_Cite) → List (Int × List api_Id) → List (Int × api_Cite) × List (Int × List api_Id)
  | [], _, v, w => (v, w)
  | c :: cs, k, v, w => rdL senses id cs (k + 1) (mset v c.From c) (match senses.find? (senseB id k) with
    | some s => mset w c.From s.To
    | none => w)

def scanT (l : List Str) : List api_Cite := scanF l (l.length + 1) 0
def rdT (u : api_Unit) (senses : List api_Meaning) : equivalence_text := ⟨tx u.Words, (rdL senses u.Id (scanT (tx u.Words)) 0 [] []).1, (rdL senses u.Id (scanT (tx u.Words)) 0 [] []).2⟩

theorem idx_find {α : Type} (l : List α) (p : α → Bool) (h : l.any p = true) : ∃ s, l.find? p = some s ∧ idx l ((l.findIdx p : Nat) : Int) = some s := by
  have hlt : l.findIdx p < l.length := List.findIdx_lt_length.2 (by simpa using h)
  refine ⟨l[l.findIdx p], ?_, by rw [idx_nat, List.getElem?_eq_getElem hlt]⟩
  rw [List.find?_eq_some_iff_getElem]
  refine ⟨List.findIdx_getElem, l.findIdx p, hlt, rfl, fun j hj => ?_⟩
  have := List.not_of_lt_findIdx hj
  simpa using this

theorem read_ok (u : api_Unit) (senses : List api_Meaning) (hw : u.Words.length ≤ 5000) (hf : ∀ w, w ∈ u.Words → w.Text.length ≤ 100) : To (fun n => M.equivalence_read n u senses) (rdT u senses) := by
  have loop1 : ∀ (l : List api_Word) (t : equivalence_text), t.words_.length + l.length ≤ 1000000 → M.equivalence_read_loop1 l t = some ({ t with words_ := t.words_ ++ tx l } : equivalence_text) := by
    intro l
    induction l with
    | nil => intro t _; simp [M.equivalence_read_loop1, tx]
    | cons x xs ih =>
      intro t h
      simp only [List.length_cons] at h
      simp only [M.equivalence_read_loop1]
      rw [appC_eq (by simp; omega), Option.bind_some, ih _ (by simp; omega)]
      simp [tx]
  have loop2 : ∀ (cs : List api_Cite) (k : Nat) (v : List (Int × api_Cite)) (w : List (Int × List api_Id)), To (fun n => M.equivalence_read_loop2 n u senses cs (k : Int) v w) (rdL senses u.Id cs k v w) := by
    intro cs
    induction cs with
    | nil => intro k v w; exact To.pure
    | cons c cs ih =>
      intro k v w
      simp only [M.equivalence_read_loop2]
      have hp : (fun s0 => M.equivalence_read_1 s0 u (k : Int)) = fun s => some (senseB u.Id k s) := by
        funext s
        unfold M.equivalence_read_1 senseB
        by_cases h : s.At = u.Id <;> simp [h]
      rw [hp]
      refine To.bind (indexM senses (senseB u.Id k)) ?_
      rw [rdL, cast_succ]
      by_cases h : senses.any (senseB u.Id k) = true
      · obtain ⟨s, h1, h2⟩ := idx_find senses _ h
        rw [if_pos h, h1]
        exact To.pos (by omega) (To.bindS h2 (ih _ _ _))
      · rw [if_neg h]
        have : senses.find? (senseB u.Id k) = none := by
          rw [List.find?_eq_none]
          intro x hx hq
          exact h (List.any_eq_true.2 ⟨x, hx, hq⟩)
        rw [this]
        exact To.neg (by omega) (ih _ _ _)
  simp only [M.equivalence_read]
  refine To.bindS (loop1 u.Words _ (by simp; omega)) ?_
  have hfine : FineW (tx u.Words) := ⟨by simp [tx]; omega, fun v hv => by
    obtain ⟨w, h1, rfl⟩ := List.mem_map.1 hv
    have := hf w h1; omega⟩
  refine To.bind (a := scanT (tx u.Words)) (scan_t (l := tx u.Words) hfine (by simp [tx]; omega)) ?_
  refine To.bind (loop2 (scanT (tx u.Words)) 0 [] []) ?_
  exact To.pure.of rfl

/-- Where a citation stands. -/
def Placed (l : List Str) (c : api_Cite) : Prop := ∃ i j : Nat, c.From = (i : Int) ∧ c.At = (j : Int) ∧ i < j ∧ j ≤ l.length ∧ ∃ v, l[j - 1]? = some v ∧ v ≠ []

theorem has_end {l : List Str} {e : Bool} : ∀ {ws : List Str} {i : Nat}, Has l e i ws → ws ≠ [] → (∀ w ∈ ws, w ≠ []) → ∃ v, l[i + ws.length - 1]? = some v ∧ v ≠ []
  | [], _, _, h, _ => absurd rfl h
  | [w], i, h, _, hw => by
    rcases h with ⟨_, h⟩ | ⟨_, b, h, _⟩
    · exact ⟨w, by simpa using h, hw w (by simp)⟩
    · exact ⟨w ++ [b], by simpa using h, by simp⟩
  | w :: w2 :: ws, i, h, _, hw => by
    obtain ⟨v, h1, h2⟩ := has_end (ws := w2 :: ws) (i := i + 1) h.tail (by simp) (fun x hx => hw x (List.mem_cons_of_mem _ hx))
    refine ⟨v, ?_, h2⟩
    rw [← h1]; congr 1; simp only [List.length_cons]; omega

theorem scan_placed (l : List Str) : ∀ (k i : Nat), ∀ c ∈ scanF l k i, Placed l c := by
  intro k
  induction k with
  | zero => intro i c hc; simp [scanF] at hc
  | succ k ih =>
    intro i c hc
    unfold scanF at hc
    split at hc
    · split at hc
      · rename_i hp
        rcases List.mem_cons.1 hc with rfl | hc
        · obtain ⟨j, e, h1, h2, h3, h4, h5, h6, h7⟩ := long_place hp
          obtain ⟨v, hv, hn⟩ := has_end h7 (words_ne h1) (fun w hw => gw_ne (words_good h1 w hw))
          exact ⟨i, j, h2, h3, h5, h6, v, by rw [h4]; exact hv, hn⟩
        · exact ih _ c hc
      · exact ih _ c hc
    · cases hc

theorem rdL_cites (senses senses' : List api_Meaning) (id id' : api_Id) : ∀ (cs : List api_Cite) (k : Nat) (v : List (Int × api_Cite)) (w w' : List (Int × List api_Id)), (rdL senses id cs k v w).1 = (rdL senses' id' cs k v w').1 := by
  intro cs
  induction cs with
  | nil => intro k v w w'; rfl
  | cons c cs ih => intro k v w w'; exact ih _ _ _ _

theorem rdL_placed (l : List Str) (senses : List api_Meaning) (id : api_Id) : ∀ (cs : List api_Cite) (k : Nat) (v : List (Int × api_Cite)) (w : List (Int × List api_Id)), (∀ c ∈ cs, Placed l c) → (∀ i, mhas v i = true → (mget v i zapi_Cite).From = i ∧ Placed l (mget v i zapi_Cite)) →
    ∀ i, mhas (rdL senses id cs k v w).1 i = true → (mget (rdL senses id cs k v w).1 i zapi_Cite).From = i ∧ Placed l (mget (rdL senses id cs k v w).1 i zapi_Cite) := by
  intro cs
  induction cs with
  | nil => intro k v w _ hv; exact hv
  | cons c cs ih =>
    intro k v w hc hv
    refine ih _ _ _ (fun x hx => hc x (List.mem_cons_of_mem _ hx)) (fun i hi => ?_)
    rw [mget_set]
    by_cases he : i = c.From
    · rw [if_pos he]; exact ⟨he.symm, hc c (List.mem_cons_self ..)⟩
    · rw [if_neg he]
      rw [mhas_set] at hi
      exact hv i (by simpa [he] using hi)

theorem rd_placed (u : api_Unit) (senses : List api_Meaning) (i : Int) (h : mhas (rdT u senses).cites_ i = true) : (mget (rdT u senses).cites_ i zapi_Cite).From = i ∧ Placed (tx u.Words) (mget (rdT u senses).cites_ i zapi_Cite) :=
  rdL_placed (tx u.Words) senses u.Id _ 0 [] [] (scan_placed _ _ _) (fun i hi => by simp [mhas] at hi) i h

theorem rdL_none (id : api_Id) : ∀ (cs : List api_Cite) (k : Nat) (v : List (Int × api_Cite)) (w : List (Int × List api_Id)), (rdL [] id cs k v w).2 = w := by
  intro cs
  induction cs with
  | nil => intro k v w; rfl
  | cons c cs ih => intro k v w; rw [rdL]; exact ih _ _ _

theorem rd_none (u : api_Unit) : (rdT u []).targets_ = [] := rdL_none u.Id _ 0 [] []

/-! ## Where texts differ -/

def lcp : List Str → List Str → Nat
  | x :: xs, y :: ys => if x = y then lcp xs ys + 1 else 0
  | _, _ => 0

def difP (xs ys : List Str) : Int × Bool := if xs = ys then (0, false) else ((lcp xs ys : Nat), true)

theorem differ_none {b : api_Unit} {l : List api_Destination} {t : equivalence_table} (ht : Tab b l t) (hc : cnt b ≤ 10000) (hl : labs b) (x y : equivalence_text) (hx : x.targets_ = []) : To (fun n => M.equivalence_table_differ n t x y) (difP x.words_ y.words_) := by
  have loop : ∀ (xs ys : List Str) (i : Nat), x.words_.drop i = xs → y.words_.drop i = ys →
      To (fun n => M.equivalence_table_differ_loop1 t x y n (i : Int) (i : Int)) (if xs = ys then .inl () else .inr (((i + lcp xs ys : Nat) : Int), true)) := by
    intro xs
    induction xs with
    | nil =>
      intro ys i h1 h2
      refine To.succ ?_
      simp only [M.equivalence_table_differ_loop1, hx]
      cases ys with
      | nil =>
        refine To.bind (a := false) (To.neg (drop_end h1) (To.pure.of (by simp [drop_end h2]))) (To.neg (by simp) (To.pure.of (by simp)))
      | cons y0 ys =>
        refine To.bind (a := true) (To.neg (drop_end h1) (To.pure.of (by simp [drop_lt h2]))) (To.pos rfl ?_)
        refine To.bind (carried_ok ht hc hl [] (by simp)) ?_
        rw [car_nil]
        refine To.bind (a := false) (To.ite (fun _ => To.pure) (fun _ => To.pure)) (To.neg (by simp) ?_)
        exact To.neg (drop_end h1) (To.pure.of (by simp [lcp]))
    | cons x0 xs ih =>
      intro ys i h1 h2
      refine To.succ ?_
      simp only [M.equivalence_table_differ_loop1, hx]
      refine To.bind (a := true) (To.pos (drop_lt h1) To.pure) (To.pos rfl ?_)
      refine To.bind (carried_ok ht hc hl [] (by simp)) ?_
      rw [car_nil]
      refine To.bind (a := false) (To.ite (fun _ => To.pure) (fun _ => To.pure)) (To.neg (by simp) ?_)
      refine To.pos (drop_lt h1) ?_
      cases ys with
      | nil => exact To.neg (drop_end h2) (To.pure.of (by simp [lcp]))
      | cons y0 ys =>
        refine To.pos (drop_lt h2) (To.bindS (drop_idx h1) (To.bindS (drop_idx h2) ?_))
        by_cases he : x0 = y0
        · subst he
          refine To.pos (by simp) ?_
          rw [cast_succ]
          refine (ih ys (i + 1) (drop_next h1) (drop_next h2)).of ?_
          by_cases hs : xs = ys
          · rw [if_pos hs, if_pos (by rw [hs])]
          · rw [if_neg hs, if_neg (by simpa using hs)]
            simp only [lcp, if_true]
            congr 3; omega
        · refine To.neg (by simp [he]) (To.pure.of ?_)
          rw [if_neg (by simp [he])]
          simp [lcp, he]
  simp only [M.equivalence_table_differ]
  have h := loop x.words_ y.words_ 0 rfl rfl
  unfold difP
  by_cases he : x.words_ = y.words_
  · rw [if_pos he] at h ⊢; exact To.bind h To.pure
  · rw [if_neg he] at h ⊢; exact To.bind h (To.pure.of (by simp))

theorem sign_some {t : equivalence_text} {j : Nat} {v : Str} (h : t.words_[j]? = some v) (hv : v ≠ []) (hl : v.length ≤ 1000000) : ∃ s, M.equivalence_text_sign t (j : Int) = some s := by
  have hpos := List.length_pos_iff.2 hv
  unfold M.equivalence_text_sign
  rw [idx_nat, h, Option.bind_some, subC_eq (by omega) (by omega), Option.bind_some]
  have : slcLo v ((v.length : Int) - 1) = some (v.drop ((v.length : Int) - 1).toNat) := by unfold slcLo; rw [if_pos (by omega)]
  rw [this, Option.bind_some]
  have : containsM ([44, 59, 46, 58, 41] : Str) (v.drop ((v.length : Int) - 1).toNat) = some (Lib.contains ([44, 59, 46, 58, 41] : Str) (v.drop ((v.length : Int) - 1).toNat)) := by unfold containsM; rw [if_pos (by simp)]
  rw [this, Option.bind_some]
  split
  · exact ⟨_, rfl⟩
  · exact ⟨_, rfl⟩

/-- Two texts with the same words and citations, whose meanings carry over, do not differ. -/
theorem differ_same {b : api_Unit} {l : List api_Destination} {t : equivalence_table} (ht : Tab b l t) (hc : cnt b ≤ 10000) (hl : labs b) (x y : equivalence_text) (hw : y.words_ = x.words_) (hci : y.cites_ = x.cites_)
    (hp : ∀ i, mhas x.cites_ i = true → (mget x.cites_ i zapi_Cite).From = i ∧ Placed x.words_ (mget x.cites_ i zapi_Cite))
    (hlen : ∀ i, (mget x.targets_ i []).length ≤ 1000) (hfine : x.words_.length ≤ 1000000 ∧ ∀ v ∈ x.words_, v.length ≤ 1000000)
    (htg : ∀ i, (carF b l (mget x.targets_ i [])).2 = true → mget y.targets_ i [] = (carF b l (mget x.targets_ i [])).1) : To (fun n => M.equivalence_table_differ n t x y) (0, false) := by
  have loop : ∀ (d i : Nat), i + d = x.words_.length → To (fun n => M.equivalence_table_differ_loop1 t x y n (i : Int) (i : Int)) (.inl ()) := by
    intro d
    induction d using Nat.strongRecOn with
    | _ d ih =>
    intro i hi
    refine To.succ ?_
    simp only [M.equivalence_table_differ_loop1, hw]
    by_cases hd : d = 0
    · exact To.bind (a := false) (To.neg (by omega) (To.pure.of (by simp; omega))) (To.neg (by simp) To.pure)
    · refine To.bind (a := true) (To.pos (by omega) To.pure) (To.pos rfl ?_)
      refine To.bind (carried_ok ht hc hl _ (by have := hlen (i : Int); omega)) ?_
      have word : To (fun n => if (i : Int) < (x.words_.length : Int) then if (i : Int) < (x.words_.length : Int) then Option.bind (idx x.words_ (i : Int)) fun v4 => Option.bind (idx x.words_ (i : Int)) fun v5 =>
          if (v4 == v5) = true then M.equivalence_table_differ_loop1 t x y n ((i : Int) + 1) ((i : Int) + 1) else some (.inr ((i : Int), true)) else some (.inr ((i : Int), true)) else some (.inr ((i : Int), true))) (.inl ()) := by
        have hx : idx x.words_ (i : Int) = some x.words_[i] := by rw [idx_nat, List.getElem?_eq_getElem]
        refine To.pos (by omega) (To.pos (by omega) (To.bindS hx (To.bindS hx (To.pos (by simp) ?_))))
        rw [cast_succ]
        exact ih (d - 1) (by omega) (i + 1) (by omega)
      cases hm : mhas x.cites_ (i : Int) with
      | false => exact To.bind (a := false) (To.neg (by simp) To.pure) (To.neg (by simp) word)
      | true =>
        cases hca : (carF b l (mget x.targets_ (i : Int) [])).2 with
        | false => exact To.bind (a := false) (To.pos rfl To.pure) (To.neg (by simp) word)
        | true =>
          refine To.bind (a := true) (To.pos rfl To.pure) (To.pos rfl ?_)
          have htt := htg (i : Int) hca
          obtain ⟨q1, i', j, q2, q3, q4, q5, v, q6, q7⟩ := hp (i : Int) hm
          have hii : i' = i := by omega
          subst hii
          have hrun : To (fun n => M.equivalence_text_run n y (i' : Int) ((carF b l (mget x.targets_ (i' : Int) [])).1.length : Int)) ((carF b l (mget x.targets_ (i' : Int) [])).1, (j : Int), true) := by
            simp only [M.equivalence_text_run]
            refine To.bind (a := (Sum.inr ((carF b l (mget x.targets_ (i' : Int) [])).1, (j : Int), true) : Unit ⊕ (List api_Id × Int × Bool))) ?_ To.pure
            refine To.succ ?_
            simp only [M.equivalence_text_run_loop1, hci, hm, htt]
            have hlc : (carF b l (mget x.targets_ (i' : Int) [])).1.length ≤ 1000 := by
              have := hlen (i' : Int)
              unfold carF
              split
              · simpa using this
              · simp
            refine To.neg (by simp) (To.bindS (appC_eq (by simp; omega)) (To.pos (by simp) (To.pure.of ?_)))
            rw [q3]; rfl
          refine To.bind hrun (To.neg (by simp) (To.bind (equalI _ _) (To.neg (by simp) ?_)))
          have hs1 : subC (j : Int) (1 : Int) = some ((j - 1 : Nat) : Int) := by rw [subC_eq (by omega) (by omega)]; congr 1; omega
          obtain ⟨s, hs⟩ := sign_some q6 q7 (hfine.2 v (List.mem_of_getElem? q6))
          have hs' : M.equivalence_text_sign y ((j - 1 : Nat) : Int) = some s := by
            rw [← hs]; unfold M.equivalence_text_sign; rw [hw]
          simp only [q3]
          refine To.bindS hs1 (To.bindS hs (To.bindS hs1 (To.bindS hs' (To.neg (by simp) ?_))))
          exact ih (x.words_.length - j) (by omega) j (by omega)
  simp only [M.equivalence_table_differ]
  exact To.bind (loop x.words_.length 0 (by omega)) To.pure
end Go.Proofs.Ytclepigknhoonaa
