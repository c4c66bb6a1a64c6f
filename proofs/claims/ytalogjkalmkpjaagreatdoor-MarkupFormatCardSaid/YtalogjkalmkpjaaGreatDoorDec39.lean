/-
  A tree that grows along its last branch: in the slice of each level the last element may still be written; those ahead of it are sealed.
-/
import Derived.Test.YtalogjkalmkpjaaGreatDoorDec35
import Derived.Test.YtalogjkalmkpjaaGreatDoorDec36
import Derived.Test.YtalogjkalmkpjaaGreatDoorDec33
set_option linter.unusedVariables false
set_option linter.unusedSimpArgs false
namespace Go.Dec
open Go
def Lv {α : Type} (tx t : Ty α) (E : TypeId) (k : Tok) (xs : List α) (u : α) : Res where
  blk := fun x => k.map Prod.fst = some x
  holds := fun g => match k with
    | none => False
    | some p => ∃ cur ds, g.w.heap[p.1]? = some (.cells cur E (0, 0)) ∧ cur.size = p.2 * t.size ∧ xs.length + 1 ≤ p.2 ∧ p.2 ≤ maxLen ∧ g.S p.1 = xs.length * t.size ∧ Row t g (some ⟨p.1, 0, none⟩) xs ∧
        tx.size = t.size ∧ tx.rep g ds u ∧ ∀ (j : Nat) v, ds[j]? = some v → cur[xs.length * t.size + j]? = some v
  stay := fun {T g g'} e hn h => by
    cases k with
    | none => exact h
    | some p =>
      obtain ⟨cur, ds, h1, h2, h3, h4, h5, h6, h7, h8, h9⟩ := h
      have hlt : p.1 < g.w.heap.size := (Array.getElem?_eq_some_iff.1 h1).1
      have := e.same p.1 hlt (hn p.1 rfl)
      exact ⟨cur, ds, this.1.trans h1, h2, h3, h4, this.2.trans h5, h6.mono e, h7, tx.mono e h8, h9⟩
  lt := fun {g b} h hb => by
    cases k with
    | none => cases hb
    | some p =>
      obtain ⟨cur, ds, h1, _⟩ := h
      have hlt : p.1 < g.w.heap.size := (Array.getElem?_eq_some_iff.1 h1).1
      cases hb
      exact hlt
structure Spk {α : Type} (tx : Tok → Ty α) (t : Ty α) (kids : α → List α) (sk : α → List α → α) : Prop where
  size : ∀ k, (tx k).size = t.size
  agg : ∀ k, (tx k).agg = t.agg
  clo : ∀ {g : G} {k : Tok} {u : α} {ys : List α} {ds : List Value}, (tx k).rep g ds u → (kids u).length = ys.length → Row t g k.addr ys → t.rep g ds (sk u ys)
theorem Row.snoc {α : Type} {t : Ty α} {g : G} {b : Nat} {xs : List α} {x : α} (h : Row t g (some ⟨b, 0, none⟩) xs) (hx : t.At g b (xs.length * t.size) x) : Row t g (some ⟨b, 0, none⟩) (xs ++ [x]) := by
  refine ⟨.inr rfl, fun i y hy => ?_⟩
  by_cases hi : i < xs.length
  · rw [List.getElem?_append_left hi] at hy
    exact h.2 i y hy
  · rw [List.getElem?_append_right (by omega)] at hy
    have hi0 : i = xs.length := by have := (List.getElem?_eq_some_iff.1 hy).1; simp at this; omega
    subst hi0
    simp at hy; subst hy
    show t.At g b (0 + xs.length * t.size) x
    rw [Nat.zero_add]; exact hx
theorem Lv.shut {α : Type} {tx : Tok → Ty α} {t : Ty α} {kids : α → List α} {sk : α → List α → α} (hS : Spk tx t kids sk) {E : TypeId} {k kl : Tok} {xs ys : List α} {u : α} {g : G} (h : (Lv (tx kl) t E k xs u).holds g) (hl : (kids u).length = ys.length) (hr : Row t g kl.addr ys) :
    Ext (fun b => k.map Prod.fst = some b) g (g.fixd k ((xs.length + 1) * t.size)) ∧ (Grown t E k (xs ++ [sk u ys])).holds (g.fixd k ((xs.length + 1) * t.size)) := by
  cases k with
  | none => exact h.elim
  | some p =>
    obtain ⟨cur, ds, h1, h2, h3, h4, h5, h6, h7, h8, h9⟩ := h
    have hSe : (g.fixd (some p) ((xs.length + 1) * t.size)).S p.1 = (xs.length + 1) * t.size := if_pos rfl
    have hle : g.S p.1 ≤ (xs.length + 1) * t.size := by rw [h5]; exact Nat.mul_le_mul_right _ (by omega)
    have e : Ext (fun b => (some p : Tok).map Prod.fst = some b) g (g.fixd (some p) ((xs.length + 1) * t.size)) := by
      refine ⟨rfl, rfl, rfl, Nat.le_refl _, fun x _ hn => ⟨rfl, ?_⟩, fun x i v hv => ⟨?_, hv.2⟩, fun x n hv => hv.same rfl ?_⟩
      · show (if _ then _ else _) = _
        rw [if_neg hn]
      · show i < (if _ then _ else _)
        by_cases hx : (some p : Tok).map Prod.fst = some x
        · rw [if_pos hx]
          have hpx : p.1 = x := Option.some.inj hx
          have := hv.1
          rw [← hpx] at this; omega
        · rw [if_neg hx]; exact hv.1
      · show g.S x ≤ if _ then _ else _
        by_cases hx : (some p : Tok).map Prod.fst = some x
        · rw [if_pos hx]
          have hpx : p.1 = x := Option.some.inj hx
          rw [← hpx]; exact hle
        · rw [if_neg hx]; exact Nat.le_refl _
    have hds : ds.length = t.size := by rw [(tx kl).len h8, hS.size]
    refine ⟨e, ⟨cur, h1, h2, by simpa using h3, h4, by rw [hSe]; simp⟩, (h6.mono e).snoc ⟨ds, t.mono e (hS.clo h8 hl hr), fun j v hj => ⟨?_, ?_⟩⟩⟩
    · rw [hSe, Nat.add_mul, Nat.one_mul]
      have := (List.getElem?_eq_some_iff.1 hj).1
      omega
    · show g.w.cell? ⟨p.1, xs.length * t.size + j, none⟩ = some v
      rw [cell_of_row _ _ _ _ _ _ h1]
      exact h9 j v hj
section
variable {α : Type} (tx : Tok → Ty α) (t : Ty α) (E : TypeId) (kids : α → List α) (sk : α → List α → α)
def spR (kl : Tok) : List Tok → List (List α × α) → List Res
  | k :: ks, (xs, u) :: sp => Lv (tx (ks.headD kl)) t E k xs u :: spR kl ks sp
  | _, _ => []
def spV : List (List α × α) → List α
  | [] => []
  | (xs, u) :: sp => xs ++ [sk u (spV sp)]
def Chn : List (List α × α) → Prop
  | [] => True
  | [(xs, u)] => kids u = []
  | (xs, u) :: (ys, w) :: sp => (kids u).length = ys.length + 1 ∧ Chn ((ys, w) :: sp)
end
section
variable {α : Type} {tx : Tok → Ty α} {t : Ty α} {E : TypeId} {kids : α → List α} {sk : α → List α → α}
theorem spV_len {sp : List (List α × α)} {xs : List α} {u : α} (h : ∃ r, sp = (xs, u) :: r) : (spV sk sp).length = xs.length + 1 := by
  obtain ⟨r, rfl⟩ := h
  simp [spV]
theorem Chn.cons {xs : List α} {u : α} {sp : List (List α × α)} (h : Chn kids ((xs, u) :: sp)) : Chn kids sp ∧ (kids u).length = (spV sk sp).length := by
  cases sp with
  | nil =>
    have h : kids u = [] := h
    exact ⟨trivial, by rw [h]; rfl⟩
  | cons y sp =>
    obtain ⟨ys, w⟩ := y
    exact ⟨h.2, by rw [spV_len ⟨sp, rfl⟩]; exact h.1⟩
theorem spR_app (kl : Tok) : ∀ (ks1 : List Tok) (sp1 : List (List α × α)) (ks2 : List Tok) (sp2 : List (List α × α)), ks1.length = sp1.length → spR tx t E kl (ks1 ++ ks2) (sp1 ++ sp2) = spR tx t E (ks2.headD kl) ks1 sp1 ++ spR tx t E kl ks2 sp2
  | [], [], ks2, sp2, _ => rfl
  | [], _ :: _, _, _, h => by cases h
  | _ :: _, [], _, _, h => by cases h
  | k :: ks1, (xs, u) :: sp1, ks2, sp2, h => by
    have ih := spR_app kl ks1 sp1 ks2 sp2 (by simpa using h)
    show Lv (tx ((ks1 ++ ks2).headD kl)) t E k xs u :: spR tx t E kl (ks1 ++ ks2) (sp1 ++ sp2) = Lv (tx (ks1.headD (ks2.headD kl))) t E k xs u :: (spR tx t E (ks2.headD kl) ks1 sp1 ++ spR tx t E kl ks2 sp2)
    rw [ih]
    cases ks1 <;> rfl
theorem spClose (hS : Spk tx t kids sk) : ∀ (ks : List Tok) (sp : List (List α × α)) (g : G), ks.length = sp.length → Chn kids sp → (∀ R ∈ spR tx t E none ks sp, R.holds g) → (spR tx t E none ks sp).Pairwise (fun R R' => ∀ b, R.blk b → ¬ R'.blk b) →
    ∃ g', g'.w = g.w ∧ Ext (fun b => ∃ R ∈ spR tx t E none ks sp, R.blk b) g g' ∧ (Grown t E (ks.headD none) (spV sk sp)).holds g'
  | [], [], g, _, _, _, _ => ⟨g, rfl, Ext.refl _ _, rfl, rfl⟩
  | [], _ :: _, _, h, _, _, _ => by cases h
  | _ :: _, [], _, h, _, _, _ => by cases h
  | k :: ks, (xs, u) :: sp, g, h, hc, hh, hp => by
    obtain ⟨hc1, hc2⟩ := hc.cons (sk := sk)
    have hp1 := List.pairwise_cons.1 hp
    obtain ⟨g1, e1, e2, e3⟩ := spClose hS ks sp g (by simpa using h) hc1 (fun R hR => hh R (List.mem_cons_of_mem _ hR)) hp1.2
    have hk : (Lv (tx (ks.headD none)) t E k xs u).holds g1 := (Lv (tx (ks.headD none)) t E k xs u).stay e2 (fun b hb ⟨R, hR, hRb⟩ => hp1.1 R hR b hb hRb) (hh _ List.mem_cons_self)
    obtain ⟨f1, f2⟩ := Lv.shut hS hk hc2 e3.2
    refine ⟨g1.fixd k ((xs.length + 1) * t.size), e1, ?_, f2⟩
    exact (e2.mono fun b ⟨R, hR, hb⟩ => ⟨R, List.mem_cons_of_mem _ hR, hb⟩).trans f1 fun b _ hb => ⟨_, List.mem_cons_self, hb⟩
variable {P : Program} {N : Nat} {g0 : G} {T0 : Nat → Prop} {env : Env} {res : Rs}
theorem W.ghost {c : Code} {ks : List KF} {B : Exit → Act → World → Prop} {env' : Env} {res' : Rs} (h : ∀ a g, St N g0 T0 env res a g → ∃ g', g'.w = g.w ∧ St N g0 T0 env' res' a g') (k : W P N g0 T0 c ks B env' res') : W P N g0 T0 c ks B env res := fun a g hs => by
  obtain ⟨g', e, h'⟩ := h a g hs
  have := k a g' h'
  rw [e] at this
  exact this
theorem St.spCut (hS : Spk tx t kids sk) {p : Prop} {ks1 ks2 : List Tok} {sp1 sp2 : List (List α × α)} {k : Tok} {xs : List α} {u : α} (K K2 K3 : Nat) (h1 : ks1.length = sp1.length) (h2 : ks2.length = sp2.length) (hc : Chn kids ((xs, u) :: sp2))
    (hr : findR K res = some (Many (Fact p :: spR tx t E none (ks1 ++ k :: ks2) (sp1 ++ (xs, u) :: sp2)))) (a : Act) (g : G) (h : St N g0 T0 env res a g) :
    ∃ g', g'.w = g.w ∧ St N g0 T0 env ((K, Many (spR tx t E k ks1 sp1)) :: (K2, Lv (tx (ks2.headD none)) t E k xs u) :: (K3, Grown t E (ks2.headD none) (spV sk sp2)) :: res.drop [K]) a g' := by
  have hin := findR_mem hr
  obtain ⟨hm, hp⟩ := h.hres _ hin
  have happ := spR_app (tx := tx) (t := t) (E := E) none ks1 sp1 (k :: ks2) ((xs, u) :: sp2) h1
  have hL : Fact p :: spR tx t E none (ks1 ++ k :: ks2) (sp1 ++ (xs, u) :: sp2) = Fact p :: (spR tx t E k ks1 sp1 ++ Lv (tx (ks2.headD none)) t E k xs u :: spR tx t E none ks2 sp2) := by rw [happ]; rfl
  rw [hL] at hm hp hin
  have hp := (List.pairwise_cons.1 hp).2
  obtain ⟨p1, p2, p3⟩ := List.pairwise_append.1 hp
  obtain ⟨p4, p5⟩ := List.pairwise_cons.1 p2
  obtain ⟨hc1, hc2⟩ := hc.cons (sk := sk)
  obtain ⟨g', e1, e2, e3⟩ := spClose hS ks2 sp2 g h2 hc1 (fun R hR => hm R (by simp [hR])) p5
  have hd : ∀ y ∈ res.drop [K], y ∈ res ∧ y.1 ≠ K := fun y hy => by have := Rs.drop_mem hy; exact ⟨this.1, by simpa using this.2⟩
  have hother : ∀ y ∈ res.drop [K], ∀ b, y.2.blk b → ¬ (Many (Fact p :: (spR tx t E k ks1 sp1 ++ Lv (tx (ks2.headD none)) t E k xs u :: spR tx t E none ks2 sp2))).blk b := fun y hy b hb hb2 =>
    h.dis.two y (hd y hy).1 _ hin (hd y hy).2 b hb hb2
  have gb : ∀ b, (Grown t E (ks2.headD none) (spV sk sp2)).blk b → ∃ R ∈ spR tx t E none ks2 sp2, R.blk b := fun b hb => by
    cases ks2 with
    | nil => cases hb
    | cons k2 ks2 =>
      cases sp2 with
      | nil => cases h2
      | cons y sp2 => obtain ⟨ys, w⟩ := y; exact ⟨_, List.mem_cons_self, hb⟩
  refine ⟨g', e1, h.sz, h.dfr, fun s A hA => A.mono e2 (h.henv s A hA), fun y hy => ?_, ?_, fun b ⟨y, hy, hb⟩ => ?_, ?_⟩
  · rcases List.mem_cons.1 hy with rfl | hy
    · refine ⟨fun R hR => R.stay e2 (fun b hb ⟨R', hR', hb'⟩ => p3 R hR R' (List.mem_cons_of_mem _ hR') b hb hb') (hm R (by simp [hR])), p1⟩
    rcases List.mem_cons.1 hy with rfl | hy
    · exact (Lv (tx (ks2.headD none)) t E k xs u).stay e2 (fun b hb ⟨R', hR', hb'⟩ => p4 R' hR' b hb hb') (hm _ (by simp))
    rcases List.mem_cons.1 hy with rfl | hy
    · exact e3
    · exact y.2.stay e2 (fun b hb ⟨R', hR', hb'⟩ => hother y hy b hb ⟨R', by simp [hR'], hb'⟩) (h.hres y (hd y hy).1)
  · refine List.pairwise_cons.2 ⟨fun y hy b hb => ?_, List.pairwise_cons.2 ⟨fun y hy b hb => ?_, List.pairwise_cons.2 ⟨fun y hy b hb hyb => ?_, h.dis.filter _⟩⟩⟩
    · obtain ⟨R, hR, hRb⟩ := hb
      rcases List.mem_cons.1 hy with rfl | hy
      · exact p3 R hR _ List.mem_cons_self b hRb
      rcases List.mem_cons.1 hy with rfl | hy
      · intro hb2
        obtain ⟨R', hR', hb'⟩ := gb b hb2
        exact p3 R hR R' (List.mem_cons_of_mem _ hR') b hRb hb'
      · exact fun hyb => hother y hy b hyb ⟨R, by simp [hR], hRb⟩
    · rcases List.mem_cons.1 hy with rfl | hy
      · intro hb2
        obtain ⟨R', hR', hb'⟩ := gb b hb2
        exact p4 R' hR' b hb hb'
      · exact fun hyb => hother y hy b hyb ⟨_, by simp, hb⟩
    · obtain ⟨R', hR', hb'⟩ := gb b hb
      exact hother y hy b hyb ⟨R', by simp [hR'], hb'⟩
  · have hown : ∀ b, (Many (Fact p :: (spR tx t E k ks1 sp1 ++ Lv (tx (ks2.headD none)) t E k xs u :: spR tx t E none ks2 sp2))).blk b → T0 b ∨ g0.w.heap.size ≤ b := fun b hb => (h.own b ⟨_, hin, hb⟩).symm
    have hmb : (Many (Fact p :: (spR tx t E k ks1 sp1 ++ Lv (tx (ks2.headD none)) t E k xs u :: spR tx t E none ks2 sp2))).blk b ∨ ∃ y ∈ res, y.2.blk b := by
      rcases List.mem_cons.1 hy with rfl | hy
      · obtain ⟨R, hR, hRb⟩ := hb
        exact .inl ⟨R, by simp [hR], hRb⟩
      rcases List.mem_cons.1 hy with rfl | hy
      · exact .inl ⟨_, by simp, hb⟩
      rcases List.mem_cons.1 hy with rfl | hy
      · obtain ⟨R', hR', hb'⟩ := gb b hb
        exact .inl ⟨R', by simp [hR'], hb'⟩
      · exact .inr ⟨y, (hd y hy).1, hb⟩
    rcases hmb with hmb | ⟨y, hy, hb⟩
    · exact h.own b ⟨_, hin, hmb⟩
    · exact h.own b ⟨y, hy, hb⟩
  · refine h.ext.trans e2 (fun x hx ⟨R', hR', hb'⟩ => ?_)
    rcases h.own x ⟨_, hin, R', by simp [hR'], hb'⟩ with h1 | h1
    · omega
    · exact h1
theorem St.spJoin {p : Prop} (hp : p) {ks1 : List Tok} {sp1 : List (List α × α)} {k kl : Tok} {xs ys : List α} {u w : α} (K K2 K3 : Nat) (hk : K ≠ K2 ∧ K ≠ K3 ∧ K2 ≠ K3) (h1 : ks1.length = sp1.length)
    (hr1 : findR K res = some (Many (spR tx t E k ks1 sp1))) (hr2 : findR K2 res = some (Lv (tx kl) t E k xs u)) (hr3 : findR K3 res = some (Lv (tx none) t E kl ys w)) (a : Act) (g : G) (h : St N g0 T0 env res a g) :
    St N g0 T0 env ((K, Many (Fact p :: spR tx t E none (ks1 ++ [k, kl]) (sp1 ++ [(xs, u), (ys, w)]))) :: res.drop [K, K2, K3]) a g := by
  obtain ⟨hk1, hk2, hk3⟩ := hk
  have i1 := findR_mem hr1
  have i2 := findR_mem hr2
  have i3 := findR_mem hr3
  obtain ⟨hm, hpw⟩ := h.hres _ i1
  have happ : spR tx t E none (ks1 ++ [k, kl]) (sp1 ++ [(xs, u), (ys, w)]) = spR tx t E k ks1 sp1 ++ [Lv (tx kl) t E k xs u, Lv (tx none) t E kl ys w] := by
    rw [spR_app none ks1 sp1 [k, kl] [(xs, u), (ys, w)] h1]; rfl
  rw [happ]
  have d12 := h.dis.two _ i1 _ i2 hk1
  have d13 := h.dis.two _ i1 _ i3 hk2
  have d23 := h.dis.two _ i2 _ i3 hk3
  have hd : ∀ y ∈ res.drop [K, K2, K3], y ∈ res ∧ y.1 ≠ K ∧ y.1 ≠ K2 ∧ y.1 ≠ K3 := fun y hy => by have := Rs.drop_mem hy; exact ⟨this.1, by simpa using this.2⟩
  refine h.toRes (fun x hx => ?_) ?_ (fun b ⟨x, hx, hb⟩ => ?_)
  · rcases List.mem_cons.1 hx with rfl | hx
    · refine ⟨fun R hR => ?_, List.pairwise_cons.2 ⟨fun R _ b hb => hb.elim, List.pairwise_append.2 ⟨hpw, List.pairwise_cons.2 ⟨fun R hR b hb => ?_, List.pairwise_singleton _ _⟩, fun R hR R' hR' b hb => ?_⟩⟩⟩
      · rcases List.mem_cons.1 hR with rfl | hR
        · exact hp
        rcases List.mem_append.1 hR with hR | hR
        · exact hm R hR
        rcases List.mem_cons.1 hR with rfl | hR
        · exact h.hres _ i2
        · rw [List.mem_singleton.1 hR]; exact h.hres _ i3
      · rw [List.mem_singleton.1 hR]; exact d23 b hb
      · rcases List.mem_cons.1 hR' with rfl | hR'
        · exact d12 b ⟨R, hR, hb⟩
        · rw [List.mem_singleton.1 hR']; exact d13 b ⟨R, hR, hb⟩
    · exact h.hres x (hd x hx).1
  · refine List.pairwise_cons.2 ⟨fun y hy b hb hyb => ?_, h.dis.filter _⟩
    obtain ⟨hy1, hy2, hy3, hy4⟩ := hd y hy
    obtain ⟨R, hR, hRb⟩ := hb
    rcases List.mem_cons.1 hR with rfl | hR
    · exact hRb
    rcases List.mem_append.1 hR with hR | hR
    · exact h.dis.two y hy1 _ i1 hy2 b hyb ⟨R, hR, hRb⟩
    rcases List.mem_cons.1 hR with rfl | hR
    · exact h.dis.two y hy1 _ i2 hy3 b hyb hRb
    · rw [List.mem_singleton.1 hR] at hRb
      exact h.dis.two y hy1 _ i3 hy4 b hyb hRb
  · rcases List.mem_cons.1 hx with rfl | hx
    · obtain ⟨R, hR, hRb⟩ := hb
      rcases List.mem_cons.1 hR with rfl | hR
      · exact hRb.elim
      rcases List.mem_append.1 hR with hR | hR
      · exact ⟨_, i1, R, hR, hRb⟩
      rcases List.mem_cons.1 hR with rfl | hR
      · exact ⟨_, i2, hRb⟩
      · rw [List.mem_singleton.1 hR] at hRb
        exact ⟨_, i3, hRb⟩
    · exact ⟨x, (hd x hx).1, hb⟩
theorem St.lvSeal (hS : Spk tx t kids sk) {k kl : Tok} {xs ys : List α} {u : α} (K2 K3 : Nat) (hl : (kids u).length = ys.length) (hr2 : findR K2 res = some (Lv (tx kl) t E k xs u)) (hr3 : findR K3 res = some (Grown t E kl ys)) (a : Act) (g : G) (h : St N g0 T0 env res a g) :
    ∃ g', g'.w = g.w ∧ St N g0 T0 env ((K2, Grown t E k (xs ++ [sk u ys])) :: res.drop [K2]) a g' := by
  have i2 := findR_mem hr2
  obtain ⟨e, f⟩ := Lv.shut hS (h.hres _ i2) hl (h.hres _ (findR_mem hr3)).2
  have hd : ∀ y ∈ res.drop [K2], y ∈ res ∧ y.1 ≠ K2 := fun y hy => by have := Rs.drop_mem hy; exact ⟨this.1, by simpa using this.2⟩
  refine ⟨g.fixd k ((xs.length + 1) * t.size), rfl, h.sz, h.dfr, fun s A hA => A.mono e (h.henv s A hA), fun y hy => ?_, ?_, fun b ⟨y, hy, hb⟩ => ?_, ?_⟩
  · rcases List.mem_cons.1 hy with rfl | hy
    · exact f
    · exact y.2.stay e (fun b hb hT => h.dis.two y (hd y hy).1 _ i2 (hd y hy).2 b hb hT) (h.hres y (hd y hy).1)
  · refine List.pairwise_cons.2 ⟨fun y hy b hb => ?_, h.dis.filter _⟩
    exact h.dis.two _ i2 _ (hd y hy).1 (Ne.symm (hd y hy).2) b hb
  · rcases List.mem_cons.1 hy with rfl | hy
    · exact h.own b ⟨_, i2, hb⟩
    · exact h.own b ⟨y, (hd y hy).1, hb⟩
  · refine h.ext.trans e (fun x hx hT => ?_)
    rcases h.own x ⟨_, i2, hT⟩ with h1 | h1
    · omega
    · exact h1
theorem Lv.ofBx {tx : Ty α} {b : Nat} {u : α} {g : G} (hsz : tx.size = t.size) (hag : tx.agg = true) (h : (Bx t.size true E (tx.is u) b).holds g) : (Lv tx t E (some (b, 1)) [] u).holds g := by
  obtain ⟨cs, h1, h2, _, _, h5, cs', h6, h7⟩ := h
  rw [hag] at h7
  have e : cs = cs' := by
    have := congrArg Value.cells h7
    simpa [mkVal, Value.cells] using this
  subst e
  refine ⟨cs.toArray, cs, h1, by simp [h2], by simp, by unfold maxLen; simp, by simp [h5], ⟨.inr rfl, fun i x hx => by simp at hx⟩, hsz, h6, fun j v hj => by simpa using hj⟩
end
section
variable {α : Type} {P : Program} {env : Env} {res : Rs} {d : Option Tmp} {ty : TypeId} {pos : String} {aft : Array Edge} {gd : Option (Nat × Bool)}
theorem Op1.loadLvS {tx : Tok → Ty α} {t : Ty α} {kids : α → List α} {sk : α → List α → α} (hS : Spk tx t kids sk) {E E' : TypeId} {x : Operand} {k kl : Tok} {xs ys : List α} {u : α} (key key2 : Nat) (ht : TyAt P E' t) (hr : findR key res = some (Lv (tx kl) t E k xs u)) (hr2 : findR key2 res = some (Grown t E kl ys)) (hl : (kids u).length = ys.length) (hx : Opd env x (Bp (bk k) (xs.length * t.size))) :
    Op1 P ⟨d, .load E' x, ty, pos, aft, gd⟩ env res (t.is (sk u ys)) :=
  Op1.same fun a g hc => by
    have hres := hc.hres _ (findR_mem hr)
    have hrow := (hc.hres _ (findR_mem hr2)).2
    cases k with
    | none => exact hres.elim
    | some p =>
      obtain ⟨cur, ds, h1, h2, h3, h4, h5, h6, h7, h8, h9⟩ := hres
      have h10 := hS.clo h8 hl hrow
      have hv : a.eval x = .pointer (some ⟨p.1, xs.length * t.size, none⟩) := hx a g hc.henv
      have := loadVar_cells (P := P) ht.agg ht.size (w := g.w) (b := p.1) (o := xs.length * t.size) (t.len h10) t.sing (fun j v hj => by
        rw [cell_of_row _ _ _ _ _ _ h1]
        exact h9 j v hj)
      exact ⟨mkVal t.agg ds, by simp [execOp, hv, Instr.loadAt, Instr.sureAddr, this], ds, h10, rfl⟩
theorem Op1.loadLvK {tx t : Ty α} {kids : α → List α} {E E' : TypeId} {x : Operand} {k kl : Tok} {xs ys : List α} {u : α} {o : Nat} (key key2 : Nat) (ht : TyAt P E' (tUT (α := α) kl)) (hF : Fld tx o (tUT kl) kids) (hr : findR key res = some (Lv tx t E k xs u)) (hr2 : findR key2 res = some (Grown t E kl ys)) (hl : (kids u).length = ys.length) (hx : Opd env x (Bp (bk k) (xs.length * t.size + o))) :
    Op1 P ⟨d, .load E' x, ty, pos, aft, gd⟩ env res (tO t kl ys) :=
  Op1.same fun a g hc => by
    have hres := hc.hres _ (findR_mem hr)
    have hrow := (hc.hres _ (findR_mem hr2)).2
    cases k with
    | none => exact hres.elim
    | some p =>
      obtain ⟨cur, ds, h1, h2, h3, h4, h5, h6, h7, h8, h9⟩ := hres
      obtain ⟨es, ⟨q1, q2, q3⟩, q4⟩ := hF g ds u h8
      have hv : a.eval x = .pointer (some ⟨p.1, xs.length * t.size + o, none⟩) := hx a g hc.henv
      have := loadVar_cells (P := P) ht.agg ht.size (w := g.w) (b := p.1) (o := xs.length * t.size + o) (cs := es) ((tUT (α := α) kl).len (g := g) ⟨q1, q2, q3⟩) (tUT (α := α) kl).sing (fun j v hj => by
        rw [cell_of_row _ _ _ _ _ _ h1, Nat.add_assoc]
        exact h9 (o + j) v (q4 j v hj))
      refine ⟨_, by simp [execOp, hv, Instr.loadAt, Instr.sureAddr, this]; rfl, ?_⟩
      rw [q1]
      rw [hl] at q2 q3 ⊢
      exact ⟨rfl, q2, q3, hrow⟩
theorem Op1.loadLvF {β : Type} {tx t : Ty α} {t2 : Ty β} {f : α → β} {E E' : TypeId} {x : Operand} {k : Tok} {xs : List α} {u : α} {o : Nat} (key : Nat) (ht : TyAt P E' t2) (hF : Fld tx o t2 f) (hr : findR key res = some (Lv tx t E k xs u)) (hx : Opd env x (Bp (bk k) (xs.length * t.size + o))) :
    Op1 P ⟨d, .load E' x, ty, pos, aft, gd⟩ env res (t2.is (f u)) :=
  Op1.same fun a g hc => by
    have hres := hc.hres _ (findR_mem hr)
    cases k with
    | none => exact hres.elim
    | some p =>
      obtain ⟨cur, ds, h1, h2, h3, h4, h5, h6, h7, h8, h9⟩ := hres
      obtain ⟨es, q1, q4⟩ := hF g ds u h8
      have hv : a.eval x = .pointer (some ⟨p.1, xs.length * t.size + o, none⟩) := hx a g hc.henv
      have := loadVar_cells (P := P) ht.agg ht.size (w := g.w) (b := p.1) (o := xs.length * t.size + o) (cs := es) (t2.len q1) t2.sing (fun j v hj => by
        rw [cell_of_row _ _ _ _ _ _ h1, Nat.add_assoc]
        exact h9 (o + j) v (q4 j v hj))
      exact ⟨mkVal t2.agg es, by simp [execOp, hv, Instr.loadAt, Instr.sureAddr, this], es, q1, rfl⟩
theorem OpR.storeLv {tx tx' t : Ty α} {β : Type} {t2 : Ty β} {E T : TypeId} {upd : α → β → α} {x y : Operand} {k : Tok} {xs : List α} {u : α} {w : β} {o key : Nat} (ht : TyAt P T t2) (hF : FldSetT tx tx' o t2 upd) (hsz : tx'.size = t.size) (hx : Opd env x (Bp (bk k) (xs.length * t.size + o))) (hy : Opd env y (t2.is w)) (hr : res.pick [key] = [(key, Lv tx t E k xs u)]) :
    OpR P ⟨none, .store T x y, ty, pos, aft, gd⟩ env res [key] (fun _ : Unit => Asn.any) (fun _ => [(key, Lv tx' t E k xs (upd u w))]) := by
  intro a g K Q hc hd hK
  have hres := hc.hres _ (pick_in hr)
  cases k with
  | none => exact hres.elim
  | some p =>
    obtain ⟨cur, us, h1, h2, h3, h4, h5, h6, h7, h8, h9⟩ := hres
    have hv : a.eval x = .pointer (some ⟨p.1, xs.length * t.size + o, none⟩) := hx a g hc.henv
    obtain ⟨ds, k1, k2⟩ := hy a g hc.henv
    have hdl := t2.len k1
    have hul := tx.len h8
    have hvc : (a.eval y).cells = ds.toArray := by rw [k2]; exact t2.cells k1
    obtain ⟨f1, f2⟩ := hF g us ds u w h8 k1
    have hm := Nat.mul_le_mul_right t.size h3
    rw [Nat.add_mul, Nat.one_mul] at hm
    have hcl : cur.toList.length = p.2 * t.size := by simpa using h2
    have hrun := storeVar_cells (P := P) (cur := cur.toList) (ds := ds) (v := a.eval y) (o := xs.length * t.size + o) ht.size (by simpa using h1) hvc hdl (by omega) (t2.one k1)
    have hex : (execOp a.eval ⟨none, .store T x y, ty, pos, aft, gd⟩).run P g.w = .ok .skip (g.w.setRow p.1 (over cur.toList (xs.length * t.size + o) ds).toArray) := by
      simp [execOp, hv, Instr.storeAt, Instr.sureAddr, hrun]
    show Oper.upon P _ a K Q ((execOp a.eval _).run P g.w)
    rw [hex]
    have ho : xs.length * t.size + o + ds.length ≤ cur.toList.length := by omega
    have hnew : ∀ i v, i < g.S p.1 → cur[i]? = some v → (over cur.toList (xs.length * t.size + o) ds).toArray[i]? = some v := by
      intro i v hi hiv
      rw [h5] at hi
      simp only [List.getElem?_toArray]
      rw [over_get ho, if_neg (by omega)]
      simpa using hiv
    let g' : G := ⟨g.w.setRow p.1 (over cur.toList (xs.length * t.size + o) ds).toArray, fun x => if x = p.1 then xs.length * t.size else g.S x⟩
    have e : Ext (fun x => x = p.1) g g' := ext_row h1 (by rw [h5]; exact Nat.le_refl _) hnew (fun _ => by rw [List.size_toArray, over_length ho]; simp)
    have hheap' : g'.w.heap[p.1]? = some (.cells (over cur.toList (xs.length * t.size + o) ds).toArray E (0, 0)) := setRow_heap g.w p.1 cur _ E _ h1
    refine hK () undef g' (e.mono (fun x hx => (blks_pick hr x).2 (by rw [show x = p.1 from hx]; rfl))) trivial (fun y hy => ?_) (List.pairwise_singleton _ _) (fun b' hb' => .inl ((blks_pick hr b').2 (let ⟨y, hy, hyb⟩ := hb'; by rw [List.mem_singleton.1 hy] at hyb; exact hyb)))
    rw [List.mem_singleton.1 hy]
    refine ⟨_, over us o ds, hheap', by rw [List.size_toArray, over_length ho, hcl], h3, h4, if_pos rfl, h6.mono e, hsz, tx'.mono e f2, fun q w' hq => ?_⟩
    have hql := (List.getElem?_eq_some_iff.1 hq).1
    rw [over_length f1] at hql
    simp only [List.getElem?_toArray]
    rw [over_get f1] at hq
    rw [over_get ho]
    by_cases hqo : o ≤ q ∧ q < o + ds.length
    · rw [if_pos hqo] at hq
      rw [if_pos (by omega), show xs.length * t.size + q - (xs.length * t.size + o) = q - o by omega]
      exact hq
    · rw [if_neg hqo] at hq
      rw [if_neg (by omega)]
      have := h9 q w' hq
      simpa using this
theorem FldSetT.all (tx tx' : Ty α) (h : tx.size = tx'.size) : FldSetT tx tx' 0 tx' (fun _ y => y) := fun g cs ds x y hx hy => by
  have h1 := tx.len hx
  have h2 := tx'.len hy
  refine ⟨by omega, ?_⟩
  rw [over_all (by omega)]
  exact hy
theorem OpR.appendGr {t : Ty α} {E T : TypeId} {s x : Operand} {k : Tok} {xs : List α} {z : α} {key : Nat} (hl : xs.length + 1 ≤ limA) (hT : P.underlying T = some (.slice E)) (hE : ElAt P E t) (hs : Opd env s (tO t k xs)) (hx : Opd env x ((tL t).is [z]))
    (hr : res.pick [key] = [(key, Grown t E k xs)]) :
    OpR P ⟨d, .call ⟨.builtin .append, #[s, x], #[T, T]⟩, ty, pos, aft, gd⟩ env res [key] (fun k' : Tok => rawS k' (xs.length + 1)) (fun k' => [(key, Resv t E k' xs)]) := by
  intro a g K Q hc hd hK
  have hres : (Grown t E k xs).holds g := hc.hres _ (pick_in hr)
  have hp1 : Rs.pick [key] [(key, Own t E k xs.length)] = [(key, Own t E k xs.length)] := by simp [Rs.pick, memB, Nat.beq_refl]
  have h := OpR.appendZ (P := P) (env := env) (res := [(key, Own t E k xs.length)]) (d := d) (ty := ty) (pos := pos) (aft := aft) (gd := gd) (key := key) (z := z) hl hT hE hs hx hp1
  have hb : ∀ b, (Rs.pick [key] [(key, Own t E k xs.length)]).blks b → (res.pick [key]).blks b := fun b hb => by
    rw [hp1] at hb
    obtain ⟨y, hy, hyb⟩ := hb
    rw [List.mem_singleton.1 hy] at hyb
    exact (blks_pick hr b).2 hyb
  exact h a g K Q ⟨hc.henv, fun y hy => by rw [List.mem_singleton.1 hy]; exact hres.1⟩ (List.pairwise_singleton _ _) fun k' v g' e h1 h2 h3 h4 => hK k' v g' (e.mono hb) h1 h2 h3 fun b hb' => (h4 b hb').imp (hb b) id
theorem OpR.storeRv {tx t : Ty α} {E : TypeId} {x y : Operand} {k : Tok} {xs : List α} {u : α} {key : Nat} (ht : TyAt P E tx) (hsz : tx.size = t.size) (hx : Opd env x (Bp (bk k) (xs.length * t.size))) (hy : Opd env y (tx.is u)) (hr : res.pick [key] = [(key, Resv t E k xs)]) :
    OpR P ⟨none, .store E x y, ty, pos, aft, gd⟩ env res [key] (fun _ : Unit => Asn.any) (fun _ => [(key, Lv tx t E k xs u)]) := by
  intro a g K Q hc hd hK
  have hres := hc.hres _ (pick_in hr)
  cases k with
  | none => exact hres.elim
  | some p =>
    obtain ⟨cur, h1, h2, h3, h4, h5, h6⟩ := hres
    have hv : a.eval x = .pointer (some ⟨p.1, xs.length * t.size, none⟩) := hx a g hc.henv
    obtain ⟨ds, k1, k2⟩ := hy a g hc.henv
    have hdl := tx.len k1
    have hvc : (a.eval y).cells = ds.toArray := by rw [k2]; exact tx.cells k1
    have hm := Nat.mul_le_mul_right t.size h3
    rw [Nat.add_mul, Nat.one_mul] at hm
    have hcl : cur.toList.length = p.2 * t.size := by simpa using h2
    have hrun := storeVar_cells (P := P) (cur := cur.toList) (ds := ds) (v := a.eval y) (o := xs.length * t.size) ht.size (by simpa using h1) hvc hdl (by omega) (tx.one k1)
    have hex : (execOp a.eval ⟨none, .store E x y, ty, pos, aft, gd⟩).run P g.w = .ok .skip (g.w.setRow p.1 (over cur.toList (xs.length * t.size) ds).toArray) := by
      simp [execOp, hv, Instr.storeAt, Instr.sureAddr, hrun]
    show Oper.upon P _ a K Q ((execOp a.eval _).run P g.w)
    rw [hex]
    have ho : xs.length * t.size + ds.length ≤ cur.toList.length := by omega
    have hnew : ∀ i v, i < g.S p.1 → cur[i]? = some v → (over cur.toList (xs.length * t.size) ds).toArray[i]? = some v := by
      intro i v hi hiv
      rw [h5] at hi
      simp only [List.getElem?_toArray]
      rw [over_get ho, if_neg (by omega)]
      simpa using hiv
    let g' : G := ⟨g.w.setRow p.1 (over cur.toList (xs.length * t.size) ds).toArray, fun x => if x = p.1 then xs.length * t.size else g.S x⟩
    have e : Ext (fun x => x = p.1) g g' := ext_row h1 (by rw [h5]; exact Nat.le_refl _) hnew (fun _ => by rw [List.size_toArray, over_length ho]; simp)
    have hheap' : g'.w.heap[p.1]? = some (.cells (over cur.toList (xs.length * t.size) ds).toArray E (0, 0)) := setRow_heap g.w p.1 cur _ E _ h1
    refine hK () undef g' (e.mono (fun x hx => (blks_pick hr x).2 (by rw [show x = p.1 from hx]; rfl))) trivial (fun y hy => ?_) (List.pairwise_singleton _ _) (fun b' hb' => .inl ((blks_pick hr b').2 (let ⟨y, hy, hyb⟩ := hb'; by rw [List.mem_singleton.1 hy] at hyb; exact hyb)))
    rw [List.mem_singleton.1 hy]
    refine ⟨_, ds, hheap', by rw [List.size_toArray, over_length ho, hcl], h3, h4, if_pos rfl, h6.mono e, hsz, tx.mono e k1, fun q w' hq => ?_⟩
    have hql := (List.getElem?_eq_some_iff.1 hq).1
    simp only [List.getElem?_toArray]
    rw [over_get ho, if_pos (by omega), show xs.length * t.size + q - xs.length * t.size = q by omega]
    exact hq
theorem Opd.rawUT {k : Tok} {n : Nat} {x : Operand} {v : List α} (h : Opd env x (rawS k n)) (hv : n = v.length) : Opd env x ((tUT (α := α) k).is v) := h.weak fun w g ⟨h1, h2, h3, _⟩ => ⟨[w], ⟨by rw [h1, hv], by rw [← hv]; exact h2, by rw [← hv]; exact h3⟩, rfl⟩
theorem Op1.loadGr {t : Ty α} {E E' : TypeId} {x : Operand} {k : Tok} {xs : List α} {i : Nat} {u : α} (key : Nat) (ht : TyAt P E' t) (hr : findR key res = some (Grown t E k xs)) (hi : xs[i]? = some u) (hx : Opd env x (Bp (bk k) (i * t.size))) :
    Op1 P ⟨d, .load E' x, ty, pos, aft, gd⟩ env res (t.is u) :=
  Op1.same fun a g hc => by
    have hrow := (hc.hres _ (findR_mem hr)).2
    cases k with
    | none =>
      have : xs = [] := hrow
      rw [this] at hi; cases hi
    | some p =>
      obtain ⟨ds, q1, q2⟩ := hrow.2 i u hi
      have hv : a.eval x = .pointer (some ⟨p.1, i * t.size, none⟩) := hx a g hc.henv
      have := loadVar_cells (P := P) ht.agg ht.size (w := g.w) (b := p.1) (o := i * t.size) (t.len q1) t.sing (fun j v hj => by
        have h9 := (q2 j v hj).2
        have e0 : (0 : Nat) + i * t.size + j = i * t.size + j := by omega
        have h9 : g.w.cell? ⟨p.1, 0 + i * t.size + j, none⟩ = some v := h9
        rw [e0] at h9; exact h9)
      exact ⟨mkVal t.agg ds, by simp [execOp, hv, Instr.loadAt, Instr.sureAddr, this], ds, q1, rfl⟩
end
def tAdO : Ty (Option (Nat × Nat)) where
  size := 1
  agg := false
  rep := fun _ cs x => cs = [.pointer (x.map fun p => ⟨p.1, p.2, none⟩)]
  len := fun h => by rw [h]; rfl
  one := fun h c hc => by
    rw [h] at hc
    rw [List.mem_singleton.1 hc]; rfl
  mono := fun _ h => h
  sing := fun _ => rfl
def tAd : Ty (Nat × Nat) := tMap tAdO some
theorem tAd_flat : Flat tAd := fun _ _ _ _ h => h
theorem Opd.toAd {env : Env} {x : Operand} {b o : Nat} (h : Opd env x (Bp b o)) : Opd env x (tAdO.is (some (b, o))) := h.weak fun v g hv => ⟨[v], by rw [show v = _ from hv]; rfl, rfl⟩
theorem Opd.ofAd {env : Env} {x : Operand} {p : Nat × Nat} (h : Opd env x (tAd.is p)) : Opd env x (Bp p.1 p.2) := h.weak fun v g ⟨cs, h1, h2⟩ => by
  have h1 : cs = [.pointer (some ⟨p.1, p.2, none⟩)] := h1
  subst h1
  exact h2
theorem Asn.ofAd {p : Nat × Nat} {v : Value} {g : G} (h : (tAd.is p).holds v g) : (Bp p.1 p.2).holds v g := by
  obtain ⟨cs, h1, h2⟩ := h
  have h1 : cs = [.pointer (some ⟨p.1, p.2, none⟩)] := h1
  subst h1
  exact h2
def adr {α : Type} (t : Ty α) : List Tok → List (List α × α) → List (Nat × Nat)
  | k :: ks, (xs, u) :: sp => (bk k, xs.length * t.size) :: adr t ks sp
  | _, _ => []
theorem adr_len {α : Type} (t : Ty α) : ∀ (ks : List Tok) (sp : List (List α × α)), ks.length = sp.length → (adr t ks sp).length = sp.length
  | [], [], _ => rfl
  | [], _ :: _, h => by cases h
  | _ :: _, [], h => by cases h
  | k :: ks, (xs, u) :: sp, h => by simp [adr, adr_len t ks sp (by simpa using h)]
theorem adr_app {α : Type} (t : Ty α) : ∀ (ks1 : List Tok) (sp1 : List (List α × α)) (ks2 : List Tok) (sp2 : List (List α × α)), ks1.length = sp1.length → adr t (ks1 ++ ks2) (sp1 ++ sp2) = adr t ks1 sp1 ++ adr t ks2 sp2
  | [], [], _, _, _ => rfl
  | [], _ :: _, _, _, h => by cases h
  | _ :: _, [], _, _, h => by cases h
  | k :: ks1, (xs, u) :: sp1, ks2, sp2, h => by
    show _ :: adr t (ks1 ++ ks2) (sp1 ++ sp2) = _ :: (adr t ks1 sp1 ++ adr t ks2 sp2)
    rw [adr_app t ks1 sp1 ks2 sp2 (by simpa using h)]
end Go.Dec
