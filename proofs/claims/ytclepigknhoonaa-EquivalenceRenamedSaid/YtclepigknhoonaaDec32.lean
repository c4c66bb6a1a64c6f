/-
  Maps whose values are slices of the call's own, grown in place: m[k] = append(m[k], x).
-/
import Derived.Test.YtclepigknhoonaaDec30
import Derived.Test.YtclepigknhoonaaDec26
set_option linter.unusedVariables false
set_option linter.unusedSimpArgs false
namespace Go.Dec
open Go

/-! ## Lists of pairs with a token each -/

section
variable {α β : Type} [DecidableEq α]
def kgetT (x : α) : List (α × β) → List Tok → Tok
  | p :: m, k :: ks => if x = p.1 then k else kgetT x m ks
  | _, _ => none
def kput (x : α) (c : Tok) : List (α × β) → List Tok → List Tok
  | p :: m, k :: ks => if x = p.1 then c :: ks else k :: kput x c m ks
  | _, _ => [c]
def kdrop (x : α) : List (α × β) → List Tok → List Tok
  | p :: m, k :: ks => if x = p.1 then ks else k :: kdrop x m ks
  | _, ks => ks
def mopen (x : α) (m : List (α × List β)) : List (α × List β) := if mhas m x then m else m ++ [(x, [])]
def kopen (x : α) (m : List (α × List β)) (ks : List Tok) : List Tok := if mhas m x then ks else ks ++ [none]
end

def Tok.apart (k k' : Tok) : Prop := ∀ x, k.map Prod.fst = some x → k'.map Prod.fst ≠ some x
theorem Tok.apart_symm {k k' : Tok} (h : Tok.apart k k') : Tok.apart k' k := fun x h1 h2 => h x h2 h1

def EntsA {α β : Type} (tk : Ty α) (t : Ty β) (E : TypeId) (g : G) : List MapEntry → List (α × List β) → List Tok → Prop
  | [], [], [] => True
  | e :: es, p :: m, k :: ks => ((tk.is p.1).holds e.key g ∧ (tO t k p.2).holds e.val g ∧ (Own t E k p.2.length).holds g) ∧ EntsA tk t E g es m ks
  | _, _, _ => False

/-- As before, but the entry of one key is open. -/
def EntsH {α β : Type} [DecidableEq α] (tk : Ty α) (t : Ty β) (E : TypeId) (g : G) (u : α) (born : Nat) : List MapEntry → List (α × List β) → List Tok → Prop
  | e :: es, p :: m, k :: ks => if u = p.1 then (tk.is p.1).holds e.key g ∧ e.born = born ∧ EntsA tk t E g es m ks else ((tk.is p.1).holds e.key g ∧ (tO t k p.2).holds e.val g ∧ (Own t E k p.2.length).holds g) ∧ EntsH tk t E g u born es m ks
  | _, _, _ => False

section
variable {α β : Type} {tk : Ty α} {t : Ty β} {E : TypeId}

theorem EntsA.stay {T : Nat → Prop} {g g' : G} (e : Ext T g g') : ∀ {es : List MapEntry} {m : List (α × List β)} {ks : List Tok}, (∀ k ∈ ks, ∀ b, k.map Prod.fst = some b → ¬ T b) → EntsA tk t E g es m ks → EntsA tk t E g' es m ks
  | [], [], [], _, _ => trivial
  | x :: es, p :: m, k :: ks, hn, ⟨⟨h1, h2, h3⟩, h4⟩ => ⟨⟨(tk.is p.1).mono e h1, (tO t k p.2).mono e h2, (Own t E k p.2.length).stay e (hn k (List.mem_cons_self ..)) h3⟩, EntsA.stay e (fun k' hk' => hn k' (List.mem_cons_of_mem _ hk')) h4⟩
  | [], [], _ :: _, _, h => h.elim
  | [], _ :: _, _, _, h => h.elim
  | _ :: _, [], _, _, h => h.elim
  | _ :: _, _ :: _, [], _, h => h.elim

theorem EntsA.ents {g : G} : ∀ {es : List MapEntry} {m : List (α × List β)} {ks : List Tok}, EntsA tk t E g es m ks → Ents tk (tL t) g es m
  | [], [], [], _ => trivial
  | x :: es, p :: m, k :: ks, ⟨⟨h1, h2, h3⟩, h4⟩ => ⟨h1, tO_tL h2, EntsA.ents h4⟩
  | [], [], _ :: _, h => h.elim
  | [], _ :: _, _, h => h.elim
  | _ :: _, [], _, h => h.elim
  | _ :: _, _ :: _, [], h => h.elim

theorem EntsA.lt {g : G} : ∀ {es : List MapEntry} {m : List (α × List β)} {ks : List Tok}, EntsA tk t E g es m ks → ∀ k ∈ ks, ∀ b, k.map Prod.fst = some b → b < g.w.heap.size
  | [], [], [], _, k, hk, _, _ => by cases hk
  | x :: es, p :: m, k :: ks, ⟨⟨h1, h2, h3⟩, h4⟩, k', hk', b, hb => by
    rcases List.mem_cons.1 hk' with rfl | hk'
    · exact (Own t E k' p.2.length).lt h3 hb
    · exact EntsA.lt h4 k' hk' b hb
  | [], [], _ :: _, h, _, _, _, _ => h.elim
  | [], _ :: _, _, h, _, _, _, _ => h.elim
  | _ :: _, [], _, h, _, _, _, _ => h.elim
  | _ :: _, _ :: _, [], h, _, _, _, _ => h.elim
end

section
variable {α β : Type} [DecidableEq α] {tk : Ty α} {t : Ty β} {E : TypeId}

theorem EntsH.stay {T : Nat → Prop} {g g' : G} {u : α} {born : Nat} (e : Ext T g g') : ∀ {es : List MapEntry} {m : List (α × List β)} {ks : List Tok}, (∀ k ∈ kdrop u m ks, ∀ b, k.map Prod.fst = some b → ¬ T b) → EntsH tk t E g u born es m ks → EntsH tk t E g' u born es m ks
  | x :: es, p :: m, k :: ks, hn, h => by
    unfold EntsH at h ⊢
    unfold kdrop at hn
    by_cases hp : u = p.1
    · rw [if_pos hp] at h hn ⊢
      exact ⟨(tk.is p.1).mono e h.1, h.2.1, h.2.2.stay e hn⟩
    · rw [if_neg hp] at h hn ⊢
      exact ⟨⟨(tk.is p.1).mono e h.1.1, (tO t k p.2).mono e h.1.2.1, (Own t E k p.2.length).stay e (hn k (List.mem_cons_self ..)) h.1.2.2⟩, EntsH.stay e (fun k' hk' => hn k' (List.mem_cons_of_mem _ hk')) h.2⟩
  | [], _, _, _, h => by unfold EntsH at h; exact h.elim
  | _ :: _, [], _, _, h => by unfold EntsH at h; exact h.elim
  | _ :: _, _ :: _, [], _, h => by unfold EntsH at h; exact h.elim

theorem EntsH.lt {g : G} {u : α} {born : Nat} : ∀ {es : List MapEntry} {m : List (α × List β)} {ks : List Tok}, EntsH tk t E g u born es m ks → ∀ k ∈ kdrop u m ks, ∀ b, k.map Prod.fst = some b → b < g.w.heap.size
  | x :: es, p :: m, k :: ks, h, k', hk', b, hb => by
    unfold EntsH at h
    unfold kdrop at hk'
    by_cases hp : u = p.1
    · rw [if_pos hp] at h hk'
      exact h.2.2.lt k' hk' b hb
    · rw [if_neg hp] at h hk'
      rcases List.mem_cons.1 hk' with rfl | hk'
      · exact (Own t E k' p.2.length).lt h.1.2.2 hb
      · exact EntsH.lt h.2 k' hk' b hb
  | [], _, _, h, _, _, _, _ => by unfold EntsH at h; exact h.elim
  | _ :: _, [], _, h, _, _, _, _ => by unfold EntsH at h; exact h.elim
  | _ :: _, _ :: _, [], h, _, _, _, _ => by unfold EntsH at h; exact h.elim

theorem EntsA.find {g : G} (x : α) : ∀ (es : List MapEntry) (m : List (α × List β)) (ks : List Tok) (i : Nat), EntsA tk t E g es m ks →
    (findAt x (m.map Prod.fst) es i = none ∧ mhas m x = false ∧ mget m x [] = [] ∧ kgetT x m ks = none) ∨
    (∃ j e, findAt x (m.map Prod.fst) es i = some (i + j, e.val) ∧ es[j]? = some e ∧ mhas m x = true ∧ (tO t (kgetT x m ks) (mget m x [])).holds e.val g ∧ (Own t E (kgetT x m ks) (mget m x []).length).holds g ∧ (tk.is x).holds e.key g ∧
      ∀ key', (tk.is x).holds key' g → EntsH tk t E g x e.born (es.modify j (fun e => { e with key := key' })) m ks)
  | [], [], [], i, _ => .inl ⟨rfl, rfl, rfl, rfl⟩
  | e :: es, p :: m, k :: ks, i, ⟨⟨h1, h2, h3⟩, h4⟩ => by
    by_cases hp : x = p.1
    · refine .inr ⟨0, e, by simp [findAt, hp], rfl, by simp [mhas, hp], by simpa [mget, kgetT, hp] using h2, by simpa [mget, kgetT, hp] using h3, by rw [hp]; exact h1, fun key' hk => ?_⟩
      show EntsH tk t E g x e.born ({ e with key := key' } :: es) (p :: m) (k :: ks)
      unfold EntsH
      rw [if_pos hp, ← hp]
      exact ⟨hk, rfl, h4⟩
    · rcases EntsA.find x es m ks (i + 1) h4 with ⟨k1, k2, k3, k4⟩ | ⟨j, e', k1, k2, k3, k4, k5, k6, k7⟩
      · exact .inl ⟨by simp only [List.map_cons, findAt, if_neg hp]; exact k1, by simpa [mhas, hp] using k2, by simpa [mget, hp] using k3, by simpa [kgetT, hp] using k4⟩
      · refine .inr ⟨j + 1, e', by simp only [List.map_cons, findAt, if_neg hp]; rw [k1]; congr 2; omega, by simpa using k2, by simpa [mhas, hp] using k3, by simpa [mget, kgetT, hp] using k4, by simpa [mget, kgetT, hp] using k5, k6, fun key' hk => ?_⟩
        show EntsH tk t E g x e'.born (e :: es.modify j _) (p :: m) (k :: ks)
        unfold EntsH
        rw [if_neg hp]
        exact ⟨⟨h1, h2, h3⟩, k7 key' hk⟩
  | [], [], _ :: _, _, h => h.elim
  | [], _ :: _, _, _, h => h.elim
  | _ :: _, [], _, _, h => h.elim
  | _ :: _, _ :: _, [], _, h => h.elim

theorem EntsA.push {g : G} {x : α} {key' v : Value} {c : Nat} (hk : (tk.is x).holds key' g) : ∀ {es : List MapEntry} {m : List (α × List β)} {ks : List Tok}, EntsA tk t E g es m ks → mhas m x = false → EntsH tk t E g x c (es ++ [⟨key', v, c⟩]) (m ++ [(x, [])]) (ks ++ [none])
  | [], [], [], _, _ => by
    show EntsH tk t E g x c [⟨key', v, c⟩] [(x, [])] [none]
    unfold EntsH
    rw [if_pos rfl]
    exact ⟨hk, rfl, trivial⟩
  | e :: es, p :: m, k :: ks, ⟨h, h4⟩, hx => by
    have hp : ¬ x = p.1 := fun hp => by simp [mhas, hp] at hx
    show EntsH tk t E g x c (e :: (es ++ _)) (p :: (m ++ _)) (k :: (ks ++ _))
    unfold EntsH
    rw [if_neg hp]
    exact ⟨h, EntsA.push hk h4 (by simpa [mhas, hp] using hx)⟩
  | [], [], _ :: _, h, _ => h.elim
  | [], _ :: _, _, h, _ => h.elim
  | _ :: _, [], _, h, _ => h.elim
  | _ :: _, _ :: _, [], h, _ => h.elim

/-- The open entry is the first with its stamp; it is closed again. -/
theorem EntsH.store {g : G} {u : α} {born : Nat} {xs : List β} {k' : Tok} {v : Value} (hv : (tO t k' xs).holds v g) (ho : (Own t E k' xs.length).holds g) : ∀ {es : List MapEntry} {m : List (α × List β)} {ks : List Tok}, (es.map (·.born)).Nodup → EntsH tk t E g u born es m ks →
    ∃ j, es.findIdx? (fun e => ((e.born : Int) == (born : Int))) = some j ∧ EntsA tk t E g (es.modify j (fun e => { e with val := v })) (mset m u xs) (kput u k' m ks)
  | e :: es, p :: m, k :: ks, hn, h => by
    unfold EntsH at h
    by_cases hp : u = p.1
    · rw [if_pos hp] at h
      refine ⟨0, by simp [List.findIdx?_cons, h.2.1], ?_⟩
      show EntsA tk t E g ({ e with val := v } :: es) _ _
      simp only [mset, kput, if_pos hp]
      rw [hp]
      exact ⟨⟨h.1, hv, ho⟩, h.2.2⟩
    · rw [if_neg hp] at h
      have hn' := List.nodup_cons.1 hn
      obtain ⟨j, h1, h2⟩ := EntsH.store hv ho hn'.2 h.2
      have hb : ∃ e' ∈ es, e'.born = born := by
        have := List.findIdx?_eq_some_iff_getElem.1 h1
        obtain ⟨hj, h3, _⟩ := this
        exact ⟨es[j], List.getElem_mem hj, by have h3 := eq_of_beq h3; omega⟩
      obtain ⟨e', he', hb⟩ := hb
      have hne : ¬ e.born = born := fun hx => hn'.1 (by show e.born ∈ _; rw [hx, ← hb]; exact List.mem_map_of_mem (f := (·.born)) he')
      refine ⟨j + 1, ?_, ?_⟩
      · have : ¬ ((e.born : Int) = (born : Int)) := by omega
        simp [List.findIdx?_cons, this, h1]
      · show EntsA tk t E g (e :: es.modify j _) _ _
        simp only [mset, kput, if_neg hp]
        exact ⟨h.1, h2⟩
  | [], _, _, _, h => by unfold EntsH at h; exact h.elim
  | _ :: _, [], _, _, h => by unfold EntsH at h; exact h.elim
  | _ :: _, _ :: _, [], _, h => by unfold EntsH at h; exact h.elim

theorem EntsA.perm {g : G} {u : α} : ∀ {es : List MapEntry} {m : List (α × List β)} {ks : List Tok}, EntsA tk t E g es m ks → mhas m u = true → ks.Perm (kgetT u m ks :: kdrop u m ks)
  | [], [], [], _, h => by simp [mhas] at h
  | e :: es, p :: m, k :: ks, ⟨_, h4⟩, h => by
    by_cases hp : u = p.1
    · simp [kgetT, kdrop, hp]
    · simp only [kgetT, kdrop, if_neg hp]
      have := EntsA.perm (u := u) h4 (by simpa [mhas, hp] using h)
      exact (this.cons k).trans (List.Perm.swap ..)
  | [], [], _ :: _, h, _ => h.elim
  | [], _ :: _, _, h, _ => h.elim
  | _ :: _, [], _, h, _ => h.elim
  | _ :: _, _ :: _, [], h, _ => h.elim

theorem EntsH.perm {g : G} {u : α} {born : Nat} {c : Tok} : ∀ {es : List MapEntry} {m : List (α × List β)} {ks : List Tok}, EntsH tk t E g u born es m ks → (kput u c m ks).Perm (c :: kdrop u m ks)
  | e :: es, p :: m, k :: ks, h => by
    unfold EntsH at h
    by_cases hp : u = p.1
    · simp [kput, kdrop, hp]
    · rw [if_neg hp] at h
      simp only [kput, kdrop, if_neg hp]
      exact ((EntsH.perm h.2).cons k).trans (List.Perm.swap ..)
  | [], _, _, h => by unfold EntsH at h; exact h.elim
  | _ :: _, [], _, h => by unfold EntsH at h; exact h.elim
  | _ :: _, _ :: _, [], h => by unfold EntsH at h; exact h.elim

theorem EntsA.drop_push {g : G} {u : α} : ∀ {es : List MapEntry} {m : List (α × List β)} {ks : List Tok}, EntsA tk t E g es m ks → mhas m u = false → kdrop u (m ++ [(u, [])]) (ks ++ [none]) = ks
  | [], [], [], _, _ => by simp [kdrop]
  | e :: es, p :: m, k :: ks, ⟨_, h4⟩, h => by
    have hp : ¬ u = p.1 := fun hp => by simp [mhas, hp] at h
    simp only [List.cons_append, kdrop, if_neg hp]
    rw [EntsA.drop_push h4 (by simpa [mhas, hp] using h)]
  | [], [], _ :: _, h, _ => h.elim
  | [], _ :: _, _, h, _ => h.elim
  | _ :: _, [], _, h, _ => h.elim
  | _ :: _, _ :: _, [], h, _ => h.elim

theorem mset_mopen (u : α) (xs : List β) : ∀ m : List (α × List β), mset (mopen u m) u xs = mset m u xs := by
  have : ∀ m : List (α × List β), mhas m u = false → mset (m ++ [(u, [])]) u xs = mset m u xs := by
    intro m
    induction m with
    | nil => intro _; simp [mset]
    | cons p m ih =>
      intro h
      have hp : ¬ u = p.1 := fun hp => by simp [mhas, hp] at h
      simp only [List.cons_append, mset, if_neg hp]
      rw [ih (by simpa [mhas, hp] using h)]
  intro m
  unfold mopen
  cases h : mhas m u with
  | true => simp
  | false => simpa using this m h
end

/-! ## The resources -/

def MpA {α β : Type} (tk : Ty α) (t : Ty β) (E : TypeId) (m : List (α × List β)) (ks : List Tok) (b : Nat) : Res where
  blk := fun x => x = b ∨ ∃ k ∈ ks, k.map Prod.fst = some x
  holds := fun g => ∃ es clock, g.w.heap[b]? = some (.map es clock) ∧ g.S b = 0 ∧ EntsA tk t E g es.toList m ks ∧ ks.Pairwise Tok.apart ∧ (∀ k ∈ ks, k.map Prod.fst ≠ some b) ∧ (es.toList.map (·.born)).Nodup ∧ ∀ e ∈ es.toList, e.born < clock
  stay := fun {T g g'} e hn ⟨es, c, h1, h0, h2, h3⟩ => by
    have hlt := (Array.getElem?_eq_some_iff.1 h1).1
    have := e.same b hlt (hn b (.inl rfl))
    exact ⟨es, c, this.1.trans h1, this.2.trans h0, h2.stay e (fun k hk b hb => hn b (.inr ⟨k, hk, hb⟩)), h3⟩
  lt := fun {g b'} ⟨es, c, h1, _, h2, _⟩ hb => by
    rcases hb with rfl | ⟨k, hk, hb⟩
    · exact (Array.getElem?_eq_some_iff.1 h1).1
    · exact h2.lt k hk b' hb

def MpH {α β : Type} [DecidableEq α] (tk : Ty α) (t : Ty β) (E : TypeId) (m : List (α × List β)) (ks : List Tok) (u : α) (born : Nat) (b : Nat) : Res where
  blk := fun x => x = b ∨ ∃ k ∈ kdrop u (mopen u m) (kopen u m ks), k.map Prod.fst = some x
  holds := fun g => ∃ es clock, g.w.heap[b]? = some (.map es clock) ∧ g.S b = 0 ∧ EntsH tk t E g u born es.toList (mopen u m) (kopen u m ks) ∧ (kdrop u (mopen u m) (kopen u m ks)).Pairwise Tok.apart ∧ (∀ k ∈ kdrop u (mopen u m) (kopen u m ks), k.map Prod.fst ≠ some b) ∧ (es.toList.map (·.born)).Nodup ∧ ∀ e ∈ es.toList, e.born < clock
  stay := fun {T g g'} e hn ⟨es, c, h1, h0, h2, h3⟩ => by
    have hlt := (Array.getElem?_eq_some_iff.1 h1).1
    have := e.same b hlt (hn b (.inl rfl))
    exact ⟨es, c, this.1.trans h1, this.2.trans h0, h2.stay e (fun k hk b hb => hn b (.inr ⟨k, hk, hb⟩)), h3⟩
  lt := fun {g b'} ⟨es, c, h1, _, h2, _⟩ hb => by
    rcases hb with rfl | ⟨k, hk, hb⟩
    · exact (Array.getElem?_eq_some_iff.1 h1).1
    · exact h2.lt k hk b' hb

section
variable {P : Program} {N : Nat} {g0 : G} {T0 : Nat → Prop} {env : Env} {res : Rs} {d : Option Tmp} {ty : TypeId} {pos : String} {aft : Array Edge} {gd : Option (Nat × Bool)} {α β : Type} {tk : Ty α} {t : Ty β} {E : TypeId}

theorem OpR.makeMapA {T : TypeId} (tk : Ty α) (t : Ty β) (E : TypeId) (key : Nat) : OpR P ⟨d, .makeMap T none, ty, pos, aft, gd⟩ env res [] (fun b : Nat => Mv b) (fun b => [(key, MpA tk t E [] [] b)]) := by
  intro a g K Q hc hd hK
  have hrun : (execOp a.eval ⟨d, .makeMap T none, ty, pos, aft, gd⟩).run P g.w = .ok (.value (.map (some g.w.heap.size))) (g.alloc (.map #[] 0) 0).w := by simp [execOp, Instr.makeMap, G.alloc]
  show Oper.upon P _ a K Q ((execOp a.eval _).run P g.w)
  rw [hrun]
  refine hK g.w.heap.size _ (g.alloc (.map #[] 0) 0) (Ext.alloc _ _ _ _) rfl (fun y hy => ?_) (List.pairwise_singleton _ _) (fun b hb => .inr ?_)
  · rw [List.mem_singleton.1 hy]
    refine ⟨#[], 0, heap_alloc_new g.w _, ?_, trivial, List.Pairwise.nil, fun _ h => (by cases h), List.nodup_nil, fun _ h => (by cases h)⟩
    show (if g.w.heap.size = g.w.heap.size then 0 else _) = 0
    rw [if_pos rfl]
  · obtain ⟨y, hy, hb⟩ := hb
    rw [List.mem_singleton.1 hy] at hb
    rcases hb with rfl | ⟨k, hk, _⟩
    · exact Nat.le_refl _
    · cases hk
end

section
variable {P : Program} {N : Nat} {g0 : G} {T0 : Nat → Prop} {env : Env} {res : Rs} {d : Option Tmp} {ty : TypeId} {pos : String} {aft : Array Edge} {gd : Option (Nat × Bool)} {α β : Type} [DecidableEq α] {tk : Ty α} {t : Ty β} {E : TypeId}

def Stamp (n : Nat) : Asn := Asn.eq (goInt (n : Int))

theorem OpR.mapEntry {T k e : TypeId} {m : List (α × List β)} {ks : List Tok} {u : α} {b : Nat} {x y : Operand} (key key2 : Nat) (hT : P.underlying T = some (.map k e)) (hk : KeyT P k tk) (hz : ∀ w, (zeroValue e).run P w = .ok (.slice none 0 0) w) (hr : res.pick [key] = [(key, MpA tk t E m ks b)]) (hx : Opd env x (Mv b)) (hy : Opd env y (tk.is u)) :
    OpR P ⟨d, .mapEntry T x y, ty, pos, aft, gd⟩ env res [key] (fun c : Nat => Asn.tuple2 (tO t (kgetT u m ks) (mget m u [])) (Stamp c)) (fun c => [(key, MpH tk t E m ks u c b), (key2, Own t E (kgetT u m ks) (mget m u []).length)]) := by
  intro a g K Q hc hd hK
  have hin : (key, MpA tk t E m ks b) ∈ res := by
    have : (key, MpA tk t E m ks b) ∈ res.pick [key] := by rw [hr]; exact List.mem_singleton.2 rfl
    exact (List.mem_filter.1 this).1
  obtain ⟨es, clock, h1, h0, h2, h3, h4, h5, h6⟩ := hc.hres _ hin
  have hv : a.eval x = .map (some b) := hx a g hc.henv
  obtain ⟨cs, hu, hyv⟩ := hy a g hc.henv
  have hck := hk.chk hu false g.w
  have hf := hk.find hu h2.ents g.w
  have hlt := (Array.getElem?_eq_some_iff.1 h1).1
  have hblk : ∀ b', (res.pick [key]).blks b' ↔ (MpA tk t E m ks b).blk b' := by
    intro b'
    rw [hr]
    constructor
    · rintro ⟨y, hy, hb⟩
      rw [List.mem_singleton.1 hy] at hb; exact hb
    · intro hb
      exact ⟨_, List.mem_singleton.2 rfl, hb⟩
  have fin : ∀ (w' w0 : World) (es' : Array MapEntry) (c' born : Nat) (v : Value), (w0 = g.w ∨ w0 = g.w.drew) → w' = { w0 with heap := w0.heap.setIfInBounds b (.map es' c') } → (execOp a.eval ⟨d, .mapEntry T x y, ty, pos, aft, gd⟩).run P g.w = .ok (.value (.tuple #[v, goInt (born : Int)])) w' →
      (tO t (kgetT u m ks) (mget m u [])).holds v g → (Own t E (kgetT u m ks) (mget m u []).length).holds g → EntsH tk t E g u born es'.toList (mopen u m) (kopen u m ks) → (es'.toList.map (·.born)).Nodup → (∀ e ∈ es'.toList, e.born < c') →
      (kdrop u (mopen u m) (kopen u m ks)).Pairwise Tok.apart → (∀ k ∈ kdrop u (mopen u m) (kopen u m ks), k.map Prod.fst ≠ some b ∧ Tok.apart (kgetT u m ks) k ∧ k ∈ ks) → (∀ x, (kgetT u m ks).map Prod.fst = some x → x ≠ b ∧ kgetT u m ks ∈ ks) →
      Oper.wp P ⟨d, .mapEntry T x y, ty, pos, aft, gd⟩ a g.w K Q := by
    intro w' w0 es' c' born v hw0 hw' hrun hV hO hE hN hB hP hD hG
    have hos : w0.os = g.w.os ∧ w0.tape = g.w.tape ∧ w0.output = g.w.output ∧ w0.heap = g.w.heap := by rcases hw0 with rfl | rfl <;> exact ⟨rfl, rfl, rfl, rfl⟩
    obtain ⟨o1, o2, o3, o4⟩ := hos
    have hheap : w'.heap = g.w.heap.setIfInBounds b (.map es' c') := by rw [hw', ← o4]
    have e : Ext (· = b) g ⟨w', g.S⟩ := by
      refine ext_of g.S (by rw [hw']; exact o1) (by rw [hw']; exact o2) (by rw [hw']; exact o3) (by rw [hheap]; simp) (fun x' _ hne => ⟨?_, rfl⟩) (fun x' hx' => by rw [show x' = b from hx']; exact h0)
      rw [hheap]
      simp [Array.getElem?_setIfInBounds, Ne.symm hne]
    show Oper.upon P _ a K Q ((execOp a.eval _).run P g.w)
    rw [hrun]
    refine hK born _ ⟨w', g.S⟩ (e.mono (fun x hx => (hblk x).2 (.inl hx))) ⟨v, _, rfl, (tO t _ _).mono e hV, rfl⟩ (fun y hy => ?_) (List.pairwise_cons.2 ⟨fun y hy b' hb' hyb => ?_, List.pairwise_singleton _ _⟩) (fun b' hb' => .inl ((hblk b').2 ?_))
    · rcases List.mem_cons.1 hy with rfl | hy
      · refine ⟨es', c', ?_, h0, hE.stay e (fun k hk x hx hxb => (hD k hk).1 (by rw [hx, show x = b from hxb])), hP, fun k hk => (hD k hk).1, hN, hB⟩
        show w'.heap[b]? = _
        rw [hheap]; simp [hlt]
      · rw [List.mem_singleton.1 hy]
        exact (Own t E _ _).stay e (fun x hx hxb => (hG x hx).1 hxb) hO
    · rw [List.mem_singleton.1 hy] at hyb
      have hyb : (kgetT u m ks).map Prod.fst = some b' := hyb
      rcases hb' with rfl | ⟨k, hk, hb'⟩
      · exact (hG _ hyb).1 rfl
      · exact (hD k hk).2.1 b' hyb hb'
    · obtain ⟨y, hy, hb'⟩ := hb'
      rcases List.mem_cons.1 hy with rfl | hy
      · rcases hb' with rfl | ⟨k, hk, hb'⟩
        · exact .inl rfl
        · exact .inr ⟨k, (hD k hk).2.2, hb'⟩
      · rw [List.mem_singleton.1 hy] at hb'
        exact .inr ⟨_, (hG b' hb').2, hb'⟩
  rcases h2.find u es.toList m ks 0 with ⟨k1, k2, k3, k4⟩ | ⟨j, en, k1, k2, k3, k4, k5, k6, k7⟩
  · rw [k1] at hf
    have em : mopen u m = m ++ [(u, [])] := by unfold mopen; rw [k2]; rfl
    have ek : kopen u m ks = ks ++ [none] := by unfold kopen; rw [k2]; rfl
    have ed : kdrop u (mopen u m) (kopen u m ks) = ks := by rw [em, ek]; exact h2.drop_push k2
    refine fin _ g.w (es.push ⟨mkVal tk.agg cs, .slice none 0 0, clock⟩) (clock + 1) clock (.slice none 0 0) (.inl rfl) rfl ?_ ?_ ?_ ?_ ?_ ?_ ?_ ?_ ?_
    · simp [execOp, hv, hyv, Instr.mapEntry, run_underlying hT, MapKept.run_getObj_map h1, hck, hf, hz, MapKept.run_setObj_map _ h1]
    · rw [k3, k4]; exact ⟨rfl, Nat.le_refl _, Nat.zero_le _, rfl⟩
    · rw [k3, k4]; exact rfl
    · rw [em, ek, Array.toList_push]
      exact h2.push ⟨cs, hu, rfl⟩ k2
    · rw [Array.toList_push, List.map_append, List.nodup_append]
      refine ⟨h5, by simp, fun x hx y hy => ?_⟩
      obtain ⟨e', he', rfl⟩ := List.mem_map.1 hx
      have := h6 e' he'
      rw [List.mem_singleton.1 hy]
      show e'.born ≠ clock
      omega
    · intro e' he'
      rw [Array.toList_push] at he'
      rcases List.mem_append.1 he' with he' | he'
      · have := h6 e' he'; omega
      · rw [List.mem_singleton.1 he']; exact Nat.lt_succ_self _
    · rw [ed]; exact h3
    · rw [ed]; exact fun k hk => ⟨h4 k hk, (by rw [k4]; exact fun x hx => (by cases hx)), hk⟩
    · rw [k4]; exact fun x hx => by cases hx
  · rw [k1, Nat.zero_add] at hf
    have em : mopen u m = m := by unfold mopen; rw [k3]; rfl
    have ek : kopen u m ks = ks := by unfold kopen; rw [k3]; rfl
    have hpm := h2.perm k3
    have hpw := (hpm.pairwise_iff (fun {_ _} h => Tok.apart_symm h)).1 h3
    have hpc := List.pairwise_cons.1 hpw
    have hej : es[j]? = some en := by simpa using k2
    have hbs : ∀ (key' : Value), ((es.modify j (fun e => { e with key := key' })).toList.map (·.born)) = es.toList.map (·.born) := by
      intro key'
      rw [Array.toList_modify]
      apply List.ext_getElem?
      intro i
      simp only [List.getElem?_map, List.getElem?_modify]
      by_cases hi : j = i
      · subst hi; cases es.toList[j]? <;> simp
      · simp [hi]
    have hbm : ∀ (key' : Value), ∀ e ∈ (es.modify j (fun e => { e with key := key' })).toList, e.born < clock := by
      intro key' e he
      have : e.born ∈ (es.modify j (fun e => { e with key := key' })).toList.map (·.born) := List.mem_map_of_mem (f := (·.born)) he
      rw [hbs] at this
      obtain ⟨e', he', hb⟩ := List.mem_map.1 this
      rw [← hb]; exact h6 e' he'
    have fin' := fun (w' w0 : World) (key' : Value) (hw0 : w0 = g.w ∨ w0 = g.w.drew) (hw' : w' = { w0 with heap := w0.heap.setIfInBounds b (.map (es.modify j (fun e => { e with key := key' })) clock) }) (hrun : (execOp a.eval ⟨d, .mapEntry T x y, ty, pos, aft, gd⟩).run P g.w = .ok (.value (.tuple #[en.val, goInt (en.born : Int)])) w') (hkey : (tk.is u).holds key' g) =>
      fin w' w0 (es.modify j (fun e => { e with key := key' })) clock en.born en.val hw0 hw' hrun k4 k5 (by rw [em, ek, Array.toList_modify]; exact k7 key' hkey) (by rw [hbs]; exact h5) (hbm key') (by rw [em, ek]; exact hpc.2)
        (by rw [em, ek]; exact fun k hk => ⟨h4 k (hpm.mem_iff.2 (List.mem_cons_of_mem _ hk)), hpc.1 k hk, hpm.mem_iff.2 (List.mem_cons_of_mem _ hk)⟩)
        (fun x hx => ⟨fun hb => h4 _ (hpm.mem_iff.2 (List.mem_cons_self ..)) (by rw [hx, hb]), hpm.mem_iff.2 (List.mem_cons_self ..)⟩)
    by_cases hs : Instr.sameBits 10000 en.key (mkVal tk.agg cs) = true
    · refine fin' _ g.w (mkVal tk.agg cs) (.inl rfl) rfl ?_ ⟨cs, hu, rfl⟩
      simp [execOp, hv, hyv, Instr.mapEntry, run_underlying hT, MapKept.run_getObj_map h1, hck, hf, hej, Instr.keyThatStays, hs, MapKept.run_setObj_map _ h1]
    · have h1' : g.w.drew.heap[b]? = some (.map es clock) := h1
      by_cases hq : (Question.extern "map.whichKeyStays" 2).cut (g.w.tape g.w.drawn (.extern "map.whichKeyStays" 2)) = 0
      · refine fin' _ g.w.drew (mkVal tk.agg cs) (.inr rfl) rfl ?_ ⟨cs, hu, rfl⟩
        simp [execOp, hv, hyv, Instr.mapEntry, run_underlying hT, MapKept.run_getObj_map h1, hck, hf, hej, Instr.keyThatStays, hs, hq, MapKept.run_setObj_map _ h1', Question.forced]
      · refine fin' _ g.w.drew en.key (.inr rfl) rfl ?_ k6
        simp [execOp, hv, hyv, Instr.mapEntry, run_underlying hT, MapKept.run_getObj_map h1, hck, hf, hej, Instr.keyThatStays, hs, hq, MapKept.run_setObj_map _ h1', Question.forced]

theorem OpR.entryStore {T : TypeId} {m : List (α × List β)} {ks : List Tok} {u : α} {xs : List β} {k' : Tok} {born b : Nat} {x y z : Operand} (key key2 : Nat) (hr : res.pick [key, key2] = [(key, MpH tk t E m ks u born b), (key2, Own t E k' xs.length)] ∨ res.pick [key, key2] = [(key2, Own t E k' xs.length), (key, MpH tk t E m ks u born b)]) (hx : Opd env x (Mv b)) (hy : Opd env y (Stamp born)) (hz : Opd env z (tO t k' xs)) :
    OpR P ⟨none, .entryStore T x y z, ty, pos, aft, gd⟩ env res [key, key2] (fun _ : Unit => Asn.any) (fun _ => [(key, MpA tk t E (mset m u xs) (kput u k' (mopen u m) (kopen u m ks)) b)]) := by
  intro a g K Q hc hd hK
  have hpd : (res.pick [key, key2]).dis := hd.filter _
  have hin1 : (key, MpH tk t E m ks u born b) ∈ res.pick [key, key2] := by rcases hr with hr | hr <;> rw [hr] <;> simp
  have hin2 : (key2, Own t E k' xs.length) ∈ res.pick [key, key2] := by rcases hr with hr | hr <;> rw [hr] <;> simp
  have hap : ∀ x, (MpH tk t E m ks u born b).blk x → ¬ k'.map Prod.fst = some x := by
    rcases hr with hr | hr
    · rw [hr] at hpd
      have := (List.pairwise_cons.1 hpd).1 _ (List.mem_singleton.2 rfl)
      exact this
    · rw [hr] at hpd
      have := (List.pairwise_cons.1 hpd).1 _ (List.mem_singleton.2 rfl)
      exact fun x h1 h2 => this x h2 h1
  obtain ⟨es, clock, h1, h0, h2, h3, h4, h5, h6⟩ := hc.hres _ (List.mem_filter.1 hin1).1
  have hO := hc.hres _ (List.mem_filter.1 hin2).1
  have hv : a.eval x = .map (some b) := hx a g hc.henv
  have hyv : a.eval y = goInt (born : Int) := hy a g hc.henv
  have hzv := hz a g hc.henv
  have hlt := (Array.getElem?_eq_some_iff.1 h1).1
  obtain ⟨j, hj, hA⟩ := h2.store hzv hO h5
  have hj' : es.findIdx? (fun e => ((e.born : Int) == (born : Int))) = some j := by rw [← hj, show es = es.toList.toArray by simp, List.findIdx?_toArray]
  have hpm := h2.perm (c := k')
  have hbk : k'.map Prod.fst ≠ some b := fun h => hap b (.inl rfl) h
  let w' : World := { g.w with heap := g.w.heap.setIfInBounds b (.map (es.modify j (fun e => { e with val := a.eval z })) clock) }
  have hrun : (execOp a.eval ⟨none, .entryStore T x y z, ty, pos, aft, gd⟩).run P g.w = .ok .skip w' := by
    simp [execOp, hv, hyv, Instr.entryStore, goInt, asInt, asIntOf, MapKept.run_getObj_map h1, hj', MapKept.run_setObj_map _ h1, w']
  have e : Ext (· = b) g ⟨w', g.S⟩ := by
    refine ext_of g.S rfl rfl rfl (by simp [w']) (fun x' _ hne => ⟨?_, rfl⟩) (fun x' hx' => by rw [show x' = b from hx']; exact h0)
    simp [w', Array.getElem?_setIfInBounds, Ne.symm hne]
  show Oper.upon P _ a K Q ((execOp a.eval _).run P g.w)
  rw [hrun]
  have hkb : ∀ k ∈ kput u k' (mopen u m) (kopen u m ks), k.map Prod.fst ≠ some b := fun k hk => by
    rcases List.mem_cons.1 (hpm.mem_iff.1 hk) with rfl | hk
    · exact hbk
    · exact h4 k hk
  refine hK () undef ⟨w', g.S⟩ (e.mono (fun x hx => ⟨_, hin1, .inl hx⟩)) trivial (fun y hy => ?_) (List.pairwise_singleton _ _) (fun b' hb' => .inl ?_)
  · rw [List.mem_singleton.1 hy]
    have hA' := EntsA.stay e (fun k hk x hx hxb => hkb k hk (by rw [hx, show x = b from hxb])) hA
    rw [mset_mopen] at hA'
    have hbs : ((es.modify j (fun e => { e with val := a.eval z })).toList.map (·.born)) = es.toList.map (·.born) := by
      rw [Array.toList_modify]
      apply List.ext_getElem?
      intro i
      simp only [List.getElem?_map, List.getElem?_modify]
      by_cases hi : j = i
      · subst hi; cases es.toList[j]? <;> simp
      · simp [hi]
    refine ⟨es.modify j (fun e => { e with val := a.eval z }), clock, ?_, h0, by rw [Array.toList_modify]; exact hA', (hpm.pairwise_iff (fun {_ _} h => Tok.apart_symm h)).2 (List.pairwise_cons.2 ⟨fun k hk x h1 h2 => hap x (.inr ⟨k, hk, h2⟩) h1, h3⟩), hkb, by rw [hbs]; exact h5, fun e' he' => ?_⟩
    · show w'.heap[b]? = _
      simp [w', hlt]
    · have : e'.born ∈ (es.modify j (fun e => { e with val := a.eval z })).toList.map (·.born) := List.mem_map_of_mem (f := (·.born)) he'
      rw [hbs] at this
      obtain ⟨e2, he2, hb⟩ := List.mem_map.1 this
      rw [← hb]; exact h6 e2 he2
  · obtain ⟨y, hy, hb'⟩ := hb'
    rw [List.mem_singleton.1 hy] at hb'
    rcases hb' with rfl | ⟨k, hk, hb'⟩
    · exact ⟨_, hin1, .inl rfl⟩
    · rcases List.mem_cons.1 (hpm.mem_iff.1 hk) with rfl | hk
      · exact ⟨_, hin2, hb'⟩
      · exact ⟨_, hin1, .inr ⟨k, hk, hb'⟩⟩
end

/-! ## A field of a field -/

theorem Fld.comp {α β γ : Type} {s : Ty α} {t : Ty β} {u : Ty γ} {o o2 : Nat} {f : α → β} {h : β → γ} (hf : Fld s o t f) (hh : Fld t o2 u h) : Fld s (o + o2) u (fun x => h (f x)) := by
  intro g cs x hx
  obtain ⟨ds, hd, hj⟩ := hf g cs x hx
  obtain ⟨es, he, hk⟩ := hh g ds _ hd
  exact ⟨es, he, fun j v hv => by rw [Nat.add_assoc]; exact hj _ _ (hk j v hv)⟩

theorem FldSet.comp {α β γ : Type} {s : Ty α} {t : Ty β} {u : Ty γ} {o o2 : Nat} {f : α → β} {upd : α → β → α} {up2 : β → γ → β} (hf : Fld s o t f) (hs : FldSet s o t upd) (h2 : FldSet t o2 u up2) : FldSet s (o + o2) u (fun x y => upd x (up2 (f x) y)) := by
  intro g cs es x y hx hy
  obtain ⟨ds, hd, hj⟩ := hf g cs x hx
  obtain ⟨hl, hr⟩ := h2 g ds es _ y hd hy
  obtain ⟨hl2, hr2⟩ := hs g cs _ x _ hx hr
  have hov : (over ds o2 es).length = ds.length := by unfold over; simp only [List.length_append, List.length_take, List.length_drop]; omega
  rw [hov] at hl2
  refine ⟨by omega, ?_⟩
  have : over cs (o + o2) es = over cs o (over ds o2 es) := by
    apply List.ext_getElem?
    intro j
    unfold over
    simp only [List.getElem?_append, List.getElem?_take, List.getElem?_drop, List.length_append, List.length_take, List.length_drop, List.append_assoc]
    have hg : ∀ i, i < ds.length → cs[o + i]? = ds[i]? := fun i hi => by
      rw [List.getElem?_eq_getElem hi]; exact hj i _ (List.getElem?_eq_getElem hi)
    by_cases h1 : j < o
    · rw [if_pos (by omega), if_pos (by omega), if_pos (by omega), if_pos h1]
    · by_cases h3 : j < o + o2
      · rw [if_pos (by omega), if_pos h3, if_neg (by omega), if_pos (by omega), if_pos (by omega)]
        rw [← hg _ (by omega)]; congr 1; omega
      · by_cases h4 : j < o + o2 + es.length
        · rw [if_neg (by omega), if_pos (by omega), if_neg (by omega), if_neg (by omega), if_pos (by omega)]
          congr 1; omega
        · by_cases h5 : j < o + ds.length
          · rw [if_neg (by omega), if_neg (by omega), if_neg (by omega), if_neg (by omega), if_neg (by omega), if_pos (by omega)]
            rw [← hg _ (by omega)]; congr 1; omega
          · rw [if_neg (by omega), if_neg (by omega), if_neg (by omega), if_neg (by omega), if_neg (by omega), if_neg (by omega)]
            congr 1; omega
  rw [this]; exact hr2

/-! ## Maps inside structs, while they are written -/

/-- The map at a block, as a field of a struct; what it holds is told elsewhere. -/
def tMb {α β : Type} (b : Nat) : Ty (List (α × β)) where
  size := 1
  agg := false
  rep := fun _ cs _ => cs = [.map (some b)]
  len := fun h => by rw [h]; rfl
  one := fun h c hc => by
    rw [h] at hc
    rw [List.mem_singleton.1 hc]; rfl
  mono := fun _ h => h
  sing := fun _ => rfl
section
variable {P : Program} {env : Env} {res : Rs}
theorem Opd.toMb {α β : Type} {b : Nat} {x : Operand} {m : List (α × β)} (h : Opd env x (Mv b)) : Opd env x ((tMb b).is m) := h.weak fun v g hv => ⟨[.map (some b)], rfl, hv⟩
theorem Op1.ofMb {α β : Type} {b : Nat} {m : List (α × β)} {o : Oper} (h : Op1 P o env res ((tMb b).is m)) : Op1 P o env res (Mv b) := h.weak fun v g ⟨cs, h1, h2⟩ => by
  have h1 : cs = [.map (some b)] := h1
  subst h1
  exact h2
end

theorem ptr_tPt {α : Type} {t : Ty α} {u : α} {v : Value} {g : G} (h : (t.ptr u).holds v g) : ((tPt t).is u).holds v g := by
  obtain ⟨b, o, hv, k⟩ := h
  exact ⟨_, ⟨b, o, rfl, k⟩, hv⟩

def CvT (g : G) {α : Type} (s t : Ty α) (x y : α) : Prop := ∀ cs, s.rep g cs x → t.rep g cs y
theorem CvT.pair {g : G} {α β : Type} {s s' : Ty α} {t t' : Ty β} {x y : α × β} (h : CvT g s s' x.1 y.1) (k : CvT g t t' x.2 y.2) : CvT g (tP s t) (tP s' t') x y := by
  rintro cs ⟨c1, c2, rfl, h1, h2⟩
  exact ⟨c1, c2, rfl, h _ h1, k _ h2⟩
theorem CvT.one {g : G} {α : Type} {s s' : Ty α} {x y : α} (h : CvT g s s' x y) : CvT g (tOne s) (tOne s') x y := h
theorem CvT.map {g : G} {α β : Type} {t t' : Ty β} {m : α → β} {x y : α} (h : CvT g t t' (m x) (m y)) : CvT g (tMap t m) (tMap t' m) x y := h
theorem CvT.same {g : G} {α : Type} {t : Ty α} {x : α} : CvT g t t x x := fun _ h => h
theorem CvT.own {g : G} {α : Type} {t : Ty α} {k : Tok} {x : List α} : CvT g (tOT t k) (tL t) x x := fun cs h => (tOT_le t k).rep g cs x h
theorem CvT.mp {g : G} {α β : Type} {tk : Ty α} {tv : Ty β} {b : Nat} {m x : List (α × β)} (h : (Gm tk tv m b).holds g) : CvT g (tMb b) (tM tk tv) x m := fun cs hc => by
  obtain ⟨es, k, h1, h2⟩ := h
  exact .inr ⟨b, es, k, hc, h1, h2⟩
theorem CvT.is {g : G} {α : Type} {s t : Ty α} {x y : α} {v : Value} (ha : s.agg = t.agg) (h : CvT g s t x y) (hv : (s.is x).holds v g) : (t.is y).holds v g := by
  obtain ⟨cs, h1, h2⟩ := hv
  exact ⟨cs, h _ h1, by rw [← ha]; exact h2⟩
theorem CvT.at {g : G} {α : Type} {s t : Ty α} {x y : α} {v : Value} (h : CvT g s t x y) (hv : (s.ptr x).holds v g) : (t.ptr y).holds v g := by
  obtain ⟨b, o, h0, cs, h1, h2⟩ := hv
  exact ⟨b, o, h0, cs, h _ h1, h2⟩

section
variable {P : Program} {N : Nat} {g0 : G} {T0 : Nat → Prop} {env : Env} {res : Rs}

theorem St.slotG {s : Nat} {A A' : Asn} (hs : look s env = some A) (hA : ∀ v g, res.all g → A.holds v g → A'.holds v g) {a : Act} {g : G} (h : St N g0 T0 env res a g) : St N g0 T0 ((s, A') :: env) res a g := by
  refine ⟨h.sz, h.dfr, fun s' B hB => ?_, h.hres, h.dis, h.own, h.ext⟩
  by_cases hk : s = s'
  · subst hk
    rw [look_here] at hB
    cases hB
    exact hA _ _ h.hres (h.henv s _ hs)
  · rw [look_there _ _ hk] at hB
    exact h.henv s' B hB
theorem W.slotG {c : Code} {ks : List KF} {B : Exit → Act → World → Prop} {A : Asn} (A' : Asn) (s : Nat) (hs : look s env = some A) (hA : ∀ v g, res.all g → A.holds v g → A'.holds v g) (k : W P N g0 T0 c ks B ((s, A') :: env) res) : W P N g0 T0 c ks B env res := fun a g h => k a g (h.slotG hs hA)

theorem St.boxG {n : Nat} {agg : Bool} {T : TypeId} {A A' : Asn} {b key : Nat} (h1 : findR key res = some (Bx n agg T A b)) (hA : ∀ v g, res.all g → A.holds v g → A'.holds v g) {a : Act} {g : G} (h : St N g0 T0 env res a g) : St N g0 T0 env ((key, Bx n agg T A' b) :: res.drop [key]) a g := by
  have m1 := findR_mem h1
  have hd : ∀ y ∈ res.drop [key], y ∈ res ∧ y.1 ≠ key := fun y hy => by
    have := List.mem_filter.1 hy
    refine ⟨this.1, fun e => ?_⟩
    have h3 := this.2
    rw [memB_iff.2 (show y.1 ∈ [key] by rw [e]; simp)] at h3; cases h3
  refine ⟨h.sz, h.dfr, h.henv, fun y hy => ?_, ?_, fun b' ⟨y, hy, hb⟩ => ?_, h.ext⟩
  · rcases List.mem_cons.1 hy with rfl | hy
    · obtain ⟨cs, q1, q2, q3, q4, q5, q6⟩ := h.hres _ m1
      exact ⟨cs, q1, q2, q3, q4, q5, hA _ _ h.hres q6⟩
    · exact h.hres y (hd y hy).1
  · refine List.pairwise_cons.2 ⟨fun y hy b' hb' => ?_, h.dis.filter _⟩
    exact h.dis.two _ m1 _ (hd y hy).1 (Ne.symm (hd y hy).2) b' hb'
  · rcases List.mem_cons.1 hy with rfl | hy
    · exact h.own b' ⟨_, m1, hb⟩
    · exact h.own b' ⟨y, (hd y hy).1, hb⟩
theorem WL.boxG {ops : Array Oper} {Q : Exit → Act → World → Prop} {l : List Oper} {n : Nat} {agg : Bool} {T : TypeId} {A : Asn} {b : Nat} (A' : Asn) (key : Nat) (h1 : findR key res = some (Bx n agg T A b)) (hA : ∀ v g, res.all g → A.holds v g → A'.holds v g) (k : WL P N g0 T0 ops Q l env ((key, Bx n agg T A' b) :: res.drop [key])) : WL P N g0 T0 ops Q l env res := fun a g hst => k a g (hst.boxG h1 hA)

theorem St.dropA {α β : Type} {tk : Ty α} {t : Ty β} {E : TypeId} {m : List (α × List β)} {ks : List Tok} {key b : Nat} (h1 : findR key res = some (MpA tk t E m ks b)) {a : Act} {g : G} (h : St N g0 T0 env res a g) : St N g0 T0 env ((key, Mp tk (tL t) m b) :: res.drop [key]) a g := by
  have m1 := findR_mem h1
  have hd : ∀ y ∈ res.drop [key], y ∈ res ∧ y.1 ≠ key := fun y hy => by
    have := List.mem_filter.1 hy
    refine ⟨this.1, fun e => ?_⟩
    have h3 := this.2
    rw [memB_iff.2 (show y.1 ∈ [key] by rw [e]; simp)] at h3; cases h3
  refine ⟨h.sz, h.dfr, h.henv, fun y hy => ?_, ?_, fun b' ⟨y, hy, hb⟩ => ?_, h.ext⟩
  · rcases List.mem_cons.1 hy with rfl | hy
    · obtain ⟨es, c, q1, q2, q3, _⟩ := h.hres _ m1
      exact ⟨es, c, q1, q2, q3.ents⟩
    · exact h.hres y (hd y hy).1
  · refine List.pairwise_cons.2 ⟨fun y hy b' hb' => ?_, h.dis.filter _⟩
    exact h.dis.two _ m1 _ (hd y hy).1 (Ne.symm (hd y hy).2) b' (.inl (Option.some.inj hb').symm)
  · rcases List.mem_cons.1 hy with rfl | hy
    · exact h.own b' ⟨_, m1, .inl (Option.some.inj hb).symm⟩
    · exact h.own b' ⟨y, (hd y hy).1, hb⟩
theorem W.dropA {α β : Type} {tk : Ty α} {t : Ty β} {E : TypeId} {c : Code} {ks' : List KF} {B : Exit → Act → World → Prop} {m : List (α × List β)} {ks : List Tok} {b : Nat} (key : Nat) (h1 : findR key res = some (MpA tk t E m ks b)) (k : W P N g0 T0 c ks' B env ((key, Mp tk (tL t) m b) :: res.drop [key])) : W P N g0 T0 c ks' B env res := fun a g hst => k a g (hst.dropA h1)
theorem Rs.all.at {g : G} {key : Nat} {R : Res} (h : res.all g) (hr : findR key res = some R) : R.holds g := h _ (findR_mem hr)
end
end Go.Dec
