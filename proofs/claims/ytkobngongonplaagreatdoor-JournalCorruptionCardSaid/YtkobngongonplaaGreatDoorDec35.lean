/-
  Many resources under one key; one of them may be taken out and put back. Facts as resources. Loose slices that are cut behind.
-/
import Derived.Test.YtkobngongonplaaGreatDoorDec34
set_option linter.unusedVariables false
set_option linter.unusedSimpArgs false
namespace Go.Dec
open Go
def Many (l : List Res) : Res where
  blk := fun x => ∃ R ∈ l, R.blk x
  holds := fun g => (∀ R ∈ l, R.holds g) ∧ l.Pairwise (fun (R R' : Res) => ∀ b : Nat, R.blk b → ¬ R'.blk b)
  stay := fun e hn h => ⟨fun R hR => R.stay e (fun b hb => hn b ⟨R, hR, hb⟩) (h.1 R hR), h.2⟩
  lt := fun h ⟨R, hR, hb⟩ => R.lt (h.1 R hR) hb
section
variable {P : Program} {N : Nat} {g0 : G} {T0 : Nat → Prop} {env : Env} {res : Rs}
theorem St.toRes {res' : Rs} {a : Act} {g : G} (h : St N g0 T0 env res a g) (ha : res'.all g) (hd : res'.dis) (hb : ∀ b, res'.blks b → res.blks b) : St N g0 T0 env res' a g :=
  ⟨h.sz, h.dfr, h.henv, ha, hd, fun b hx => h.own b (hb b hx), h.ext⟩
theorem Rs.drop_mem {ks : List Nat} {y : Nat × Res} (h : y ∈ res.drop ks) : y ∈ res ∧ y.1 ∉ ks := by
  have := List.mem_filter.1 h
  refine ⟨this.1, fun e => ?_⟩
  have h3 := this.2
  rw [memB_iff.2 e] at h3; cases h3
theorem pw_mid {l1 l2 : List Res} {m : List Res} {Q : Res → Res → Prop} (hs : ∀ x y, Q x y → Q y x) (h : (l1 ++ m ++ l2).Pairwise Q) : m.Pairwise Q ∧ (l1 ++ l2).Pairwise Q ∧ ∀ x ∈ m, ∀ y ∈ l1 ++ l2, Q x y := by
  have h1 := List.pairwise_append.1 h
  have h2 := List.pairwise_append.1 h1.1
  refine ⟨h2.2.1, List.pairwise_append.2 ⟨h2.1, h1.2.1, fun x hx y hy => h1.2.2 x (List.mem_append.2 (.inl hx)) y hy⟩, fun x hx y hy => ?_⟩
  rcases List.mem_append.1 hy with hy | hy
  · exact hs _ _ (h2.2.2 y hy x hx)
  · exact h1.2.2 x (List.mem_append.2 (.inr hx)) y hy
theorem apart_symm (x y : Res) (h : ∀ b, x.blk b → ¬ y.blk b) : ∀ b, y.blk b → ¬ x.blk b := fun b hy hx => h b hx hy
theorem St.open2 {l1 l2 : List Res} {R1 R2 : Res} {key k1 k2 : Nat} (hr : findR key res = some (Many (l1 ++ [R1, R2] ++ l2))) {a : Act} {g : G} (h : St N g0 T0 env res a g) :
    St N g0 T0 env ((k1, R1) :: (k2, R2) :: (key, Many (l1 ++ l2)) :: res.drop [key]) a g := by
  have hin := findR_mem hr
  obtain ⟨hm, hp⟩ := h.hres _ hin
  obtain ⟨p1, p2, p3⟩ := pw_mid apart_symm hp
  have p1' := (List.pairwise_cons.1 p1).1 R2 (by simp)
  have hd : ∀ y ∈ res.drop [key], y ∈ res ∧ y.1 ≠ key := fun y hy => by have := Rs.drop_mem hy; exact ⟨this.1, by simpa using this.2⟩
  have hrest : ∀ R, R ∈ l1 ++ [R1, R2] ++ l2 → ∀ y ∈ res.drop [key], ∀ b, R.blk b → ¬ y.2.blk b := fun R hR y hy b hb =>
    h.dis.two _ hin y (hd y hy).1 (Ne.symm (hd y hy).2) b ⟨R, hR, hb⟩
  refine h.toRes (fun x hx => ?_) ?_ (fun b ⟨x, hx, hb⟩ => ?_)
  · rcases List.mem_cons.1 hx with rfl | hx
    · exact hm _ (by simp)
    rcases List.mem_cons.1 hx with rfl | hx
    · exact hm _ (by simp)
    rcases List.mem_cons.1 hx with rfl | hx
    · exact ⟨fun R hR => hm R (by rcases List.mem_append.1 hR with h | h <;> simp [h]), p2⟩
    · exact h.hres x (hd x hx).1
  · refine List.pairwise_cons.2 ⟨fun y hy b hb => ?_, List.pairwise_cons.2 ⟨fun y hy b hb => ?_, List.pairwise_cons.2 ⟨fun y hy b hb => ?_, h.dis.filter _⟩⟩⟩
    · rcases List.mem_cons.1 hy with rfl | hy
      · exact p1' b hb
      rcases List.mem_cons.1 hy with rfl | hy
      · rintro ⟨R, hR, hRb⟩; exact p3 R1 (by simp) R hR b hb hRb
      · exact hrest R1 (by simp) y hy b hb
    · rcases List.mem_cons.1 hy with rfl | hy
      · rintro ⟨R, hR, hRb⟩; exact p3 R2 (by simp) R hR b hb hRb
      · exact hrest R2 (by simp) y hy b hb
    · obtain ⟨R, hR, hRb⟩ := hb
      exact hrest R (by rcases List.mem_append.1 hR with h | h <;> simp [h]) y hy b hRb
  · rcases List.mem_cons.1 hx with rfl | hx
    · exact ⟨_, hin, R1, by simp, hb⟩
    rcases List.mem_cons.1 hx with rfl | hx
    · exact ⟨_, hin, R2, by simp, hb⟩
    rcases List.mem_cons.1 hx with rfl | hx
    · obtain ⟨R, hR, hRb⟩ := hb
      exact ⟨_, hin, R, by rcases List.mem_append.1 hR with h | h <;> simp [h], hRb⟩
    · exact ⟨x, (hd x hx).1, hb⟩
theorem St.free {R : Res} (key : Nat) (hb : ∀ b, ¬ R.blk b) {a : Act} {g : G} (hh : R.holds g) (h : St N g0 T0 env res a g) : St N g0 T0 env ((key, R) :: res) a g :=
  h.toRes (fun x hx => by rcases List.mem_cons.1 hx with rfl | hx; exact hh; exact h.hres x hx) (List.pairwise_cons.2 ⟨fun y hy b hbb => absurd hbb (hb b), h.dis⟩)
    (fun b ⟨x, hx, hbx⟩ => by rcases List.mem_cons.1 hx with rfl | hx; exact absurd hbx (hb b); exact ⟨x, hx, hbx⟩)
variable {c : Code} {ks : List KF} {B : Exit → Act → World → Prop} {ops : Array Oper} {Q : Exit → Act → World → Prop} {l : List Oper}
theorem W.chg {env' : Env} {res' : Rs} (hr : ∀ a g, St N g0 T0 env res a g → St N g0 T0 env' res' a g) (h : W P N g0 T0 c ks B env' res') : W P N g0 T0 c ks B env res := fun a g hst => h a g (hr a g hst)
theorem WN.chg {env' : Env} {res' : Rs} (hr : ∀ a g, St N g0 T0 env res a g → St N g0 T0 env' res' a g) (h : WN P N g0 T0 ks B env' res') : WN P N g0 T0 ks B env res := fun a g hst => h a g (hr a g hst)
theorem St.slotA {s : Nat} {A A' : Asn} (hs : look s env = some A) (hA : ∀ v g, A.holds v g → A'.holds v g) {a : Act} {g : G} (h : St N g0 T0 env res a g) : St N g0 T0 ((s, A') :: env) res a g :=
  h.slotG hs (fun v g _ hv => hA v g hv)
theorem Own.le {α : Type} {s t : Ty α} (l : Le s t) {E : TypeId} {k : Tok} {n : Nat} {g : G} (h : (Own s E k n).holds g) : (Own t E k n).holds g := by
  cases k with
  | none => exact h
  | some p =>
    obtain ⟨cur, h1, h2, h3, h4, h5⟩ := h
    exact ⟨cur, h1, by rw [← l.size]; exact h2, h3, h4, by rw [← l.size]; exact h5⟩
theorem Le.o {α : Type} {s t : Ty α} (l : Le s t) {k : Tok} {xs : List α} {v : Value} {g : G} (h : (tO s k xs).holds v g) : (tO t k xs).holds v g := ⟨h.1, h.2.1, h.2.2.1, h.2.2.2.le l⟩
theorem Cells.le {α : Type} {s t : Ty α} (l : Le s t) {g : G} {cs : List Value} {xs : List α} (h : Cells s g cs xs) : Cells t g cs xs :=
  ⟨by rw [← l.size]; exact h.1, h.2.1, fun i x hx => by
    obtain ⟨ds, h1, h2⟩ := h.2.2 i x hx
    exact ⟨ds, l.rep _ _ _ h1, by rw [← l.size]; exact h2⟩⟩
theorem OwnU.le {α : Type} {s t : Ty α} (l : Le s t) {E : TypeId} {k : Tok} {xs : List α} {g : G} (h : (OwnU s E k xs).holds g) : (OwnU t E k xs).holds g := by
  cases k with
  | none => exact h
  | some p =>
    obtain ⟨cur, h1, h2, h3, h4, h5, h6⟩ := h
    exact ⟨cur, h1, by rw [← l.size]; exact h2, h3, h4, h5, by rw [← l.size]; exact h6.le l⟩
theorem Bx.le {α : Type} {s t : Ty α} (l : Le s t) {n : Nat} {agg : Bool} {T : TypeId} {u : α} {b : Nat} {g : G} (h : (Bx n agg T (s.is u) b).holds g) : (Bx n agg T (t.is u) b).holds g := by
  obtain ⟨cs, h1, h2, h3, h4, h5, h6⟩ := h
  exact ⟨cs, h1, h2, h3, h4, h5, l.is h6⟩
theorem Cells.take {α : Type} {t : Ty α} {g : G} {cs : List Value} {xs : List α} (j : Nat) (hj : j ≤ xs.length) (h : Cells t g cs xs) : Cells t g (cs.take (j * t.size)) (xs.take j) := by
  obtain ⟨h1, h2, h3⟩ := h
  have hm := Nat.mul_le_mul_right t.size hj
  refine ⟨by rw [List.length_take, List.length_take, h1, Nat.min_eq_left hm, Nat.min_eq_left hj], fun c hc => h2 c (List.mem_of_mem_take hc), fun i x hx => ?_⟩
  rw [List.getElem?_take] at hx
  split at hx
  · rename_i hij
    obtain ⟨ds, k1, k2⟩ := h3 i x hx
    refine ⟨ds, k1, fun q v hq => ?_⟩
    have hql := (List.getElem?_eq_some_iff.1 hq).1
    rw [t.len k1] at hql
    have := Nat.mul_le_mul_right t.size (show i + 1 ≤ j by omega)
    rw [Nat.add_mul, Nat.one_mul] at this
    rw [List.getElem?_take, if_pos (by omega)]
    exact k2 q v hq
  · cases hx
theorem OwnU.take {α : Type} {t : Ty α} {E : TypeId} {k : Tok} {xs : List α} {g : G} (j : Nat) (hj : j ≤ xs.length) (h : (OwnU t E k xs).holds g) : (OwnU t E k (xs.take j)).holds g := by
  cases k with
  | none =>
    have h : xs = [] := h
    show xs.take j = []
    rw [h]; simp
  | some p =>
    obtain ⟨cur, h1, h2, h3, h4, h5, h6⟩ := h
    have hm := Nat.mul_le_mul_right t.size hj
    refine ⟨cur, h1, h2, by rw [List.length_take]; omega, h4, h5, ?_⟩
    have := h6.take j hj
    rw [List.take_take, Nat.min_eq_left hm] at this
    rw [List.length_take, Nat.min_eq_left hj]
    exact this
end
section
variable {P : Program} {env : Env} {res : Rs} {d : Option Tmp} {ty : TypeId} {pos : String} {aft : Array Edge} {gd : Option (Nat × Bool)}
end
end Go.Dec
