/-
  Maps that are no longer written: plain values.
-/
import Derived.Test.YtclepigknhoonaaDec28
set_option linter.unusedVariables false
set_option linter.unusedSimpArgs false
namespace Go.Dec
open Go

theorem G.Full.map {g : G} {b : Nat} {es : Array MapEntry} {k : Nat} (h : g.Full b (.inr (es, k))) : g.w.heap[b]? = some (.map es k) := by
  have hlt := h.lt
  rcases h.row (o := g.w.heap[b]'hlt) (Array.getElem?_eq_getElem hlt) with ⟨_, _, _, _, e⟩ | ⟨es', k', ho, e, _⟩
  · cases e
  · cases e; rw [Array.getElem?_eq_getElem hlt, ho]

def tM {α β : Type} (tk : Ty α) (tv : Ty β) : Ty (List (α × β)) where
  size := 1
  agg := false
  rep := fun g cs m => (cs = [.map none] ∧ m = []) ∨ ∃ b es k, cs = [.map (some b)] ∧ g.Full b (.inr (es, k)) ∧ Ents tk tv g es.toList m
  len := by rintro g cs x (⟨rfl, _⟩ | ⟨b, es, k, rfl, _⟩) <;> rfl
  one := by
    rintro g cs x (⟨rfl, _⟩ | ⟨b, es, k, rfl, _⟩) c hc
    · rw [List.mem_singleton.1 hc]; rfl
    · rw [List.mem_singleton.1 hc]; rfl
  mono := by
    rintro T g g' cs x e (h | ⟨b, es, k, h1, h2, h3⟩)
    · exact .inl h
    · exact .inr ⟨b, es, k, h1, e.rows _ _ h2, h3.mono e⟩
  sing := fun _ => rfl

/-- A map that stays as it is, at a block. -/
def Gm {α β : Type} (tk : Ty α) (tv : Ty β) (m : List (α × β)) (b : Nat) : Res where
  blk := fun _ => False
  holds := fun g => ∃ es k, g.Full b (.inr (es, k)) ∧ Ents tk tv g es.toList m
  stay := fun e _ ⟨es, k, h1, h2⟩ => ⟨es, k, e.rows _ _ h1, h2.mono e⟩
  lt := fun _ h => h.elim

theorem Gm.tM {α β : Type} {tk : Ty α} {tv : Ty β} {m : List (α × β)} {b : Nat} {v : Value} {g : G} (h : (Gm tk tv m b).holds g) (hv : (Mv b).holds v g) : ((tM tk tv).is m).holds v g := by
  obtain ⟨es, k, h1, h2⟩ := h
  exact ⟨[.map (some b)], .inr ⟨b, es, k, rfl, h1, h2⟩, hv⟩

/-- A pointer to sealed cells, as a value. -/
def tPt {α : Type} (t : Ty α) : Ty α where
  size := 1
  agg := false
  rep := fun g cs x => ∃ b o, cs = [.pointer (some ⟨b, o, none⟩)] ∧ t.At g b o x
  len := fun ⟨_, _, h, _⟩ => by rw [h]; rfl
  one := fun ⟨_, _, h, _⟩ c hc => by rw [h] at hc; rw [List.mem_singleton.1 hc]; rfl
  mono := fun e ⟨b, o, h, k⟩ => ⟨b, o, h, k.mono e⟩
  sing := fun _ => rfl
theorem Opd.toPt {env : Env} {α : Type} {t : Ty α} {x : Operand} {u : α} (h : Opd env x (t.ptr u)) : Opd env x ((tPt t).is u) := fun a g hc => by
  obtain ⟨b, o, hv, k⟩ := h a g hc
  exact ⟨_, ⟨b, o, rfl, k⟩, hv⟩
theorem Opd.ofPt {env : Env} {α : Type} {t : Ty α} {x : Operand} {u : α} (h : Opd env x ((tPt t).is u)) : Opd env x (t.ptr u) := fun a g hc => by
  obtain ⟨cs, ⟨b, o, rfl, k⟩, hv⟩ := h a g hc
  exact ⟨b, o, hv, k⟩

section
variable {P : Program} {N : Nat} {g0 : G} {T0 : Nat → Prop} {env : Env} {res : Rs} {d : Option Tmp} {ty : TypeId} {pos : String} {aft : Array Edge} {gd : Option (Nat × Bool)} {α β : Type} {tk : Ty α} {tv : Ty β}

theorem OpR.allocP {T : TypeId} (key : Nat) (hz : ∀ w, (zeroValue T).run P w = .ok (.pointer none) w) :
    OpR P ⟨d, .alloc T, ty, pos, aft, gd⟩ env res [] (fun b : Nat => Bp b 0) (fun b => [(key, Bx 1 false T (Asn.eq (.pointer none)) b)]) := by
  intro a g K Q hc hd hK
  have hrun : (execOp a.eval ⟨d, .alloc T, ty, pos, aft, gd⟩).run P g.w = .ok (.value (.pointer (some ⟨g.w.heap.size, 0, none⟩))) (g.alloc (.cells #[.pointer none] T) 0).w := by
    simp [execOp, Instr.alloc, hz, newVar, newRow, Value.cells, G.alloc]
  show Oper.upon P _ a K Q ((execOp a.eval _).run P g.w)
  rw [hrun]
  refine hK g.w.heap.size _ (g.alloc (.cells #[.pointer none] T) 0) (Ext.alloc _ _ _ _) rfl (fun y hy => ?_) (List.pairwise_singleton _ _) (fun b hb => .inr (by rw [(blks_one rfl).1 hb]; exact Nat.le_refl _))
  rw [List.mem_singleton.1 hy]
  exact bx_new (cs := [.pointer none]) rfl (fun _ => rfl) (fun c hc => by rw [List.mem_singleton.1 hc]; rfl) rfl

theorem St.sealMap {m : List (α × β)} {key b : Nat} (hr : findR key res = some (Mp tk tv m b)) {a : Act} {g : G} (h : St N g0 T0 env res a g) :
    ∃ g', g'.w = g.w ∧ St N g0 T0 env ((key, Gm tk tv m b) :: res.drop [key]) a g' := by
  have hin := findR_mem hr
  obtain ⟨es, clock, h1, h5, h2⟩ := h.hres _ hin
  have e : Ext (· = b) g ⟨g.w, fun x => if x = b then 1 else g.S x⟩ := by
    refine ⟨rfl, rfl, rfl, Nat.le_refl _, fun x _ hn => ⟨rfl, ?_⟩, fun x i v hv => ⟨?_, hv.2⟩, fun x n hv => ?_⟩
    · show (if x = b then _ else _) = _
      rw [if_neg hn]
    · show i < (if x = b then _ else _)
      by_cases hx : x = b
      · subst hx
        have := hv.1
        omega
      · rw [if_neg hx]; exact hv.1
    · by_cases hx : x = b
      · subst hx
        exact (hv.pos h5).elim
      · refine hv.same rfl ?_
        show g.S x ≤ if x = b then _ else _
        rw [if_neg hx]; exact Nat.le_refl _
  have hfull : (⟨g.w, fun x => if x = b then 1 else g.S x⟩ : G).Full b (.inr (es, clock)) := by
    refine ⟨?_, ?_, Nat.one_pos⟩
    · show rowN g.w b = _
      unfold rowN
      rw [h1]
      rfl
    · show 1 ≤ if b = b then 1 else g.S b
      rw [if_pos rfl]; exact Nat.le_refl _
  refine ⟨⟨g.w, fun x => if x = b then 1 else g.S x⟩, rfl, h.sz, h.dfr, fun s A hA => A.mono e (h.henv s A hA), fun y hy => ?_, ?_, fun b' ⟨y, hy, hb⟩ => ?_, ?_⟩
  · rcases List.mem_cons.1 hy with rfl | hy
    · exact ⟨es, clock, hfull, h2.mono e⟩
    · have hy' := List.mem_filter.1 hy
      refine y.2.stay e (fun b' hb' hT => ?_) (h.hres y hy'.1)
      rw [show b' = b from hT] at hb'
      exact h.dis.split [key] b ⟨y, hy, hb'⟩ ⟨(key, Mp tk tv m b), List.mem_filter.2 ⟨hin, by simp [memB]⟩, rfl⟩
  · refine List.pairwise_cons.2 ⟨fun y _ b' hb' => hb'.elim, h.dis.filter _⟩
  · rcases List.mem_cons.1 hy with rfl | hy
    · exact hb.elim
    · exact h.own b' ⟨y, (List.mem_filter.1 hy).1, hb⟩
  · refine h.ext.trans e (fun x hx hxb => ?_)
    rcases h.own b ⟨_, hin, rfl⟩ with h' | h'
    · rw [show x = b from hxb] at hx; omega
    · rw [show x = b from hxb]; exact h'

theorem WL.sealMap {ops : Array Oper} {Q : Exit → Act → World → Prop} {l : List Oper} {m : List (α × β)} {b : Nat} (key : Nat) (hr : findR key res = some (Mp tk tv m b)) (k : WL P N g0 T0 ops Q l env ((key, Gm tk tv m b) :: res.drop [key])) :
    WL P N g0 T0 ops Q l env res := fun a g h => by
  obtain ⟨g', hw, h'⟩ := h.sealMap hr
  rw [← hw]; exact k a g' h'
theorem W.sealMap {c : Code} {ks : List KF} {B : Exit → Act → World → Prop} {m : List (α × β)} {b : Nat} (key : Nat) (hr : findR key res = some (Mp tk tv m b)) (k : W P N g0 T0 c ks B env ((key, Gm tk tv m b) :: res.drop [key])) :
    W P N g0 T0 c ks B env res := fun a g h => by
  obtain ⟨g', hw, h'⟩ := h.sealMap hr
  rw [← hw]; exact k a g' h'
theorem WN.sealMap {ks : List KF} {B : Exit → Act → World → Prop} {m : List (α × β)} {b : Nat} (key : Nat) (hr : findR key res = some (Mp tk tv m b)) (k : WN P N g0 T0 ks B env ((key, Gm tk tv m b) :: res.drop [key])) :
    WN P N g0 T0 ks B env res := fun a g h => by
  obtain ⟨g', hw, h'⟩ := h.sealMap hr
  rw [← hw]; exact k a g' h'

theorem St.mapAt {m : List (α × β)} {key b slot : Nat} (hr : findR key res = some (Gm tk tv m b)) (hs : look slot env = some (Mv b)) {a : Act} {g : G} (h : St N g0 T0 env res a g) : St N g0 T0 ((slot, (tM tk tv).is m) :: env) res a g := by
  refine ⟨h.sz, h.dfr, fun s A hA => ?_, h.hres, h.dis, h.own, h.ext⟩
  by_cases hk : slot = s
  · subst hk
    rw [look_here] at hA
    cases hA
    exact Gm.tM (h.hres _ (findR_mem hr)) (h.henv slot _ hs)
  · rw [look_there _ _ hk] at hA
    exact h.henv s A hA
theorem WL.mapAt {ops : Array Oper} {Q : Exit → Act → World → Prop} {l : List Oper} {m : List (α × β)} {b : Nat} (key slot : Nat) (hr : findR key res = some (Gm tk tv m b)) (hs : look slot env = some (Mv b)) (k : WL P N g0 T0 ops Q l ((slot, (tM tk tv).is m) :: env) res) :
    WL P N g0 T0 ops Q l env res := fun a g h => k a g (h.mapAt hr hs)
theorem WN.mapAt {ks : List KF} {B : Exit → Act → World → Prop} {m : List (α × β)} {b : Nat} (key slot : Nat) (hr : findR key res = some (Gm tk tv m b)) (hs : look slot env = some (Mv b)) (k : WN P N g0 T0 ks B ((slot, (tM tk tv).is m) :: env) res) :
    WN P N g0 T0 ks B env res := fun a g h => k a g (h.mapAt hr hs)
/-- The map at a block, where it lies as a value. -/
theorem Op1.mapV {x : Operand} {o : Oper} {m : List (α × β)} {b : Nat} (key : Nat) (hr : findR key res = some (Gm tk tv m b)) (h : Op1 P o env res (Mv b)) : Op1 P o env res ((tM tk tv).is m) := by
  intro a g K Q hc hK
  refine h a g K Q hc fun v g' e hv => hK v g' e (Gm.tM ?_ hv)
  exact (Gm tk tv m b).stay e (fun _ h => h.elim) (hc.hres _ (findR_mem hr))

theorem Op1.lookupS [DecidableEq α] {T k e : TypeId} {m : List (α × β)} {z : β} {u : α} {x y : Operand} (hT : P.underlying T = some (.map k e)) (hk : KeyT P k tk) (hz : ZeroAt P e tv z) (hx : Opd env x ((tM tk tv).is m)) (hy : Opd env y (tk.is u)) :
    Op1 P ⟨d, .lookup T x y false, ty, pos, aft, gd⟩ env res (tv.is (mget m u z)) :=
  Op1.same fun a g hc => by
    obtain ⟨ms, hm, hv⟩ := hx a g hc.henv
    obtain ⟨cs, hu, hyv⟩ := hy a g hc.henv
    obtain ⟨zv, hz1, hz2⟩ := hz.zero
    rcases hm with ⟨rfl, rfl⟩ | ⟨b, es, clock, rfl, hF, h2⟩
    · have hv : a.eval x = .map none := hv
      have hck := hk.chk hu true g.w
      have hf := hk.find (es := []) (m := []) (tv := tv) hu trivial g.w
      have hf' : (Instr.findKey k (mkVal tk.agg cs) []).run P g.w = .ok none g.w := hf
      exact ⟨zv, by simp [execOp, hv, hyv, Instr.lookup, run_underlying hT, hck, hf', hz1], hz2 g⟩
    · have hv : a.eval x = .map (some b) := hv
      have h1 := hF.map
      have hck := hk.chk hu es.isEmpty g.w
      have hf := hk.find hu h2 g.w
      rcases find_get (tk := tk) (tv := tv) (g := g) u z z es.toList m 0 h2 with ⟨k1, k2, _, _⟩ | ⟨j, en, k1, k2, k3, k4, _, _⟩
      · rw [k1] at hf
        refine ⟨zv, by simp [execOp, hv, hyv, Instr.lookup, run_underlying hT, MapKept.run_getObj_map h1, hck, hf, hz1], ?_⟩
        rw [k2]; exact hz2 g
      · rw [k1] at hf
        exact ⟨en.val, by simp [execOp, hv, hyv, Instr.lookup, run_underlying hT, MapKept.run_getObj_map h1, hck, hf], k4⟩

theorem Op1.lookupSOk [DecidableEq α] {T k e : TypeId} {m : List (α × β)} {z : β} {u : α} {x y : Operand} (hT : P.underlying T = some (.map k e)) (hk : KeyT P k tk) (hz : ZeroAt P e tv z) (hx : Opd env x ((tM tk tv).is m)) (hy : Opd env y (tk.is u)) :
    Op1 P ⟨d, .lookup T x y true, ty, pos, aft, gd⟩ env res (Asn.tuple2 (tv.is (mget m u z)) (tB.is (mhas m u))) :=
  Op1.same fun a g hc => by
    obtain ⟨ms, hm, hv⟩ := hx a g hc.henv
    obtain ⟨cs, hu, hyv⟩ := hy a g hc.henv
    obtain ⟨zv, hz1, hz2⟩ := hz.zero
    rcases hm with ⟨rfl, rfl⟩ | ⟨b, es, clock, rfl, hF, h2⟩
    · have hv : a.eval x = .map none := hv
      have hck := hk.chk hu true g.w
      have hf := hk.find (es := []) (m := []) (tv := tv) hu trivial g.w
      have hf' : (Instr.findKey k (mkVal tk.agg cs) []).run P g.w = .ok none g.w := hf
      exact ⟨.tuple #[zv, .bool false], by simp [execOp, hv, hyv, Instr.lookup, run_underlying hT, hck, hf', hz1], zv, .bool false, rfl, hz2 g, ⟨_, rfl, rfl⟩⟩
    · have hv : a.eval x = .map (some b) := hv
      have h1 := hF.map
      have hck := hk.chk hu es.isEmpty g.w
      have hf := hk.find hu h2 g.w
      rcases find_get (tk := tk) (tv := tv) (g := g) u z z es.toList m 0 h2 with ⟨k1, k2, k5, _⟩ | ⟨j, en, k1, k2, k3, k4, k5, _⟩
      · rw [k1] at hf
        refine ⟨.tuple #[zv, .bool false], by simp [execOp, hv, hyv, Instr.lookup, run_underlying hT, MapKept.run_getObj_map h1, hck, hf, hz1], zv, .bool false, rfl, ?_, ?_⟩
        · rw [k2]; exact hz2 g
        · rw [k5]; exact ⟨_, rfl, rfl⟩
      · rw [k1] at hf
        exact ⟨.tuple #[en.val, .bool true], by simp [execOp, hv, hyv, Instr.lookup, run_underlying hT, MapKept.run_getObj_map h1, hck, hf], en.val, .bool true, rfl, k4, by rw [k5]; exact ⟨_, rfl, rfl⟩⟩
end
end Go.Dec
