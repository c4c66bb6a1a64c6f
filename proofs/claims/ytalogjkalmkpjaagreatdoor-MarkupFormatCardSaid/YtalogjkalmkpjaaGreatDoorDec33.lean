/-
  Loose slices whose elements' readings may lean on memory: append of one or more elements.
-/
import Derived.Test.YtalogjkalmkpjaaGreatDoorDec32
import Derived.Test.YtalogjkalmkpjaaGreatDoorDec27
set_option linter.unusedVariables false
set_option linter.unusedSimpArgs false
namespace Go.Dec
open Go
section
variable {P : Program} {env : Env} {res : Rs} {d : Option Tmp} {ty : TypeId} {pos : String} {aft : Array Edge} {gd : Option (Nat × Bool)}
theorem OpR.appendL {α : Type} {t : Ty α} {E T : TypeId} {s x : Operand} {k : Tok} {xs ys v : List α} {key : Nat} (h : Dec.appC xs ys = some v) (hne : ys ≠ []) (hT : P.underlying T = some (.slice E)) (hE : ElAt P E t) (hs : Opd env s (tU k xs.length)) (hx : Opd env x ((tL t).is ys))
    (hr : res.pick [key] = [(key, OwnU t E k xs)]) :
    OpR P ⟨d, .call ⟨.builtin .append, #[s, x], #[T, T]⟩, ty, pos, aft, gd⟩ env res [key] (fun k' : Tok => tU k' v.length) (fun k' => [(key, OwnU t E k' v)]) := by
  obtain ⟨rfl, hl⟩ := appC_out h
  intro a g K Q hc hd hK
  obtain ⟨i, z, hi, hz, hsz, hby, hzs⟩ := hE.row
  obtain ⟨hv, hc1, hl1⟩ := hs a g hc.henv
  obtain ⟨p, c, hxv, hyc, hyl, hpn, hyrow⟩ := hx.atL hc
  have hres : (OwnU t E k xs).holds g := hc.hres _ (pick_in hr)
  have hlim : xs.length + ys.length ≤ lim := by unfold limA at hl; unfold lim; omega
  have hblk : ∀ b, (res.pick [key]).blks b ↔ (k.map Prod.fst) = some b := blks_pick hr
  have run : ∀ v w', (Builtin.append_ #[T, T] ty #[a.eval s, a.eval x]).run P g.w = .ok v w' → K (a.put d v) w' →
      Oper.wp P ⟨d, .call ⟨.builtin .append, #[s, x], #[T, T]⟩, ty, pos, aft, gd⟩ a g.w K Q := by
    intro v w' hrun hK'
    unfold Oper.wp execOp
    simp only [resolve, invoke, builtin, Sem.run_bind, Sem.run_pure, Result.andThen_ok, List.map_toArray, List.map_cons, List.map_nil, hrun]
    exact hK'
  rw [hv, hxv] at run
  have done : ∀ (k' : Tok) v g', Ext (res.pick [key]).blks g g' → (tU k' (xs ++ ys).length).holds v g' → (OwnU t E k' (xs ++ ys)).holds g' → (∀ b, (k'.map Prod.fst) = some b → (k.map Prod.fst) = some b ∨ g.w.heap.size ≤ b) → K (a.put d v) g'.w := by
    intro k' v g' e h1 h2 h3
    refine hK k' v g' e h1 (fun y hy => by rw [List.mem_singleton.1 hy]; exact h2) (List.pairwise_singleton _ _) ?_
    rintro b ⟨y, hy, hb⟩
    rw [List.mem_singleton.1 hy] at hb
    rcases h3 b hb with h | h
    · exact .inl ((hblk b).2 h)
    · exact .inr h
  cases p with
  | none => exact absurd hyrow hne
  | some ad =>
    obtain ⟨hsp, hyat⟩ := hyrow
    replace hsp : ad.spot = none := hsp.resolve_left hne
    obtain ⟨bs, os, spot⟩ := ad
    simp at hsp; subst hsp
    obtain ⟨news, hnc, hnh⟩ := Row.cells hyat
    have hypos := List.length_pos_iff.2 hne
    have hnl : news.length = ys.length * i.size := by rw [hnc.1, hsz]
    have hnews : ∀ (j : Nat) v, news[j]? = some v → g.w.cell? ((⟨bs, os, none⟩ : Addr).add j) = some v := fun j v hj => by rw [Addr.add_lit]; exact (hnh j v hj).2
    cases k with
    | none =>
      have hx0 : xs = [] := hres
      subst hx0
      have h48 : ys.length * i.bytes ≤ 281474976710656 := by
        have := Nat.mul_le_mul hl hby
        unfold limA at this
        simp only [List.length_nil, Nat.zero_add] at this
        omega
      have hrun := run_append_nil (P := P) g.w T ty E i z hT hi hz ⟨bs, os, none⟩ ys.length c news hnl hnews (by omega) (by unfold lim at hlim; simp at hlim; omega) h48
      refine run _ _ hrun ?_
      have hge := grownCap_ge g.w ys.length 0 E
      have hcm : grownCap g.w ys.length 0 E ≤ maxLen := grownCap_le_maxLen g.w ys.length 0 E (by unfold lim at hlim; unfold maxLen; simp at hlim; omega)
      let cur : Array Value := news.toArray ++ Builtin.zeroCells z.cells (grownCap g.w ys.length 0 E - ys.length)
      let g' : G := g.drew.alloc (.cells cur E) 0
      have e : Ext No g g' := (Ext.drew No g).trans' (Ext.alloc No _ _ _)
      have hheap : g'.w.heap[g.w.heap.size]? = some (.cells cur E (0, 0)) := heap_alloc_new g.w.drew _
      refine done (some (g.w.heap.size, grownCap g.w ys.length 0 E)) _ g' e.no ⟨by simp [Tok.addr, Tok.cap], by simpa [Tok.cap] using hge, by simpa using hyl⟩ ?_ (fun b hb => by simp at hb; exact .inr (by omega))
      refine ⟨cur, hheap, ?_, by simpa using hge, hcm, ?_, ?_⟩
      · simp only [cur, Array.size_append, List.size_toArray, size_zeroCells, hzs, hnc.1, ← Nat.add_mul]
        congr 1; omega
      · show (if g.w.heap.size = g.w.heap.size then _ else _) = _
        rw [if_pos rfl]
      · have : cur.toList.take (([] ++ ys).length * t.size) = news := by
          simp only [cur, List.nil_append, Array.toList_append]
          rw [List.take_append_of_le_length (by simp [hnc.1])]
          simp [← hnc.1]
        rw [this]
        exact hnc.mono e
    | some q =>
      obtain ⟨cur, hheap, hcs, hncap, hcm, hS, hcl⟩ := hres
      have hold : ∀ (j : Nat) v, (cur.toList.take (xs.length * i.size))[j]? = some v → g.w.cell? ((⟨q.1, 0, none⟩ : Addr).add j) = some v := fun j v hj => by
        rw [Addr.add_lit, cell_of_row _ _ _ _ _ _ hheap]
        rw [List.getElem?_take] at hj
        split at hj
        · simpa using hj
        · cases hj
      have holdl : (cur.toList.take (xs.length * i.size)).length = xs.length * i.size := by
        have hcl : cur.toList.length = cur.size := by simp
        rw [List.length_take, hcl]
        exact Nat.min_eq_left (by rw [hcs, hsz]; exact Nat.mul_le_mul_right _ hncap)
      rw [← hsz] at hcl
      by_cases hroom : xs.length + ys.length ≤ q.2
      · have hfit : xs.length * i.size + news.length ≤ cur.size := by rw [hnl, hcs, ← hsz, ← Nat.add_mul]; exact Nat.mul_le_mul_right _ hroom
        have hrun := run_append_room (P := P) g.w T ty E i hT hi q.1 xs.length q.2 cur hheap ⟨bs, os, none⟩ ys.length c news hnl hnews hnc.2.1 hroom hfit
        refine run _ _ hrun ?_
        let new : Array Value := (cur.toList.take (xs.length * i.size) ++ news ++ cur.toList.drop (xs.length * i.size + news.length)).toArray
        let g' : G := ⟨g.w.setRow q.1 new, fun x => if x = q.1 then 0 else g.S x⟩
        have hnew : ∀ i' v, i' < g.S q.1 → cur[i']? = some v → new[i']? = some v := by
          intro i' v h1 h2
          rw [hS] at h1; omega
        have e : Ext (fun x => x = q.1) g g' := ext_row hheap (by rw [hS]; exact Nat.le_refl _) hnew (fun _ => by simp [new]; omega)
        have e' : Ext (res.pick [key]).blks g g' := e.mono fun x hx => (hblk x).2 (by simp [hx])
        have hheap' : g'.w.heap[q.1]? = some (.cells new E (0, 0)) := setRow_heap g.w q.1 cur new E _ hheap
        refine done (some q) _ g' e' ⟨by simp [Tok.addr, Tok.cap], by simpa [Tok.cap] using hroom, by simpa using hlim⟩ ?_ (fun b hb => .inl hb)
        refine ⟨new, hheap', ?_, by simpa using hroom, hcm, ?_, ?_⟩
        · simp only [new, List.size_toArray, List.length_append, holdl, List.length_drop, Array.length_toList]
          omega
        · show (if q.1 = q.1 then _ else _) = _
          rw [if_pos rfl]
        · have : new.toList.take ((xs ++ ys).length * t.size) = cur.toList.take (xs.length * i.size) ++ news := by
            simp only [new]
            have hlen1 : (cur.toList.take (xs.length * i.size) ++ news).length = (xs ++ ys).length * t.size := by rw [List.length_append, holdl, hnl, ← Nat.add_mul, List.length_append, hsz]
            rw [List.take_append_of_le_length (by rw [hlen1]; exact Nat.le_refl _), ← hlen1, List.take_length]
          rw [this]
          exact (hcl.mono e).append (hnc.mono e)
      · have hfit2 : Builtin.nextslicecap (xs.length + ys.length) q.2 * i.bytes ≤ 281474976710656 := growslice_fits (by omega) (by
          have := Nat.mul_le_mul hl hby
          unfold limA at this
          omega)
        have hrun := run_append_grow (P := P) g.w T ty E i z hT hi hz ⟨q.1, 0, none⟩ xs.length q.2 _ holdl hold ⟨bs, os, none⟩ ys.length c news hnl hnews (by omega) (by unfold lim at hlim; omega) hfit2
        refine run _ _ hrun ?_
        have hge := grownCap_ge g.w (xs.length + ys.length) q.2 E
        have hcm' : grownCap g.w (xs.length + ys.length) q.2 E ≤ maxLen := grownCap_le_maxLen g.w _ q.2 E (by unfold lim at hlim; unfold maxLen; omega)
        let cur' : Array Value := (cur.toList.take (xs.length * i.size)).toArray ++ news.toArray ++ Builtin.zeroCells z.cells (grownCap g.w (xs.length + ys.length) q.2 E - (xs.length + ys.length))
        let g' : G := g.drew.alloc (.cells cur' E) 0
        have e : Ext No g g' := (Ext.drew No g).trans' (Ext.alloc No _ _ _)
        have hheap' : g'.w.heap[g.w.heap.size]? = some (.cells cur' E (0, 0)) := heap_alloc_new g.w.drew _
        refine done (some (g.w.heap.size, grownCap g.w (xs.length + ys.length) q.2 E)) _ g' e.no ⟨by simp [Tok.addr, Tok.cap], by simpa [Tok.cap] using hge, by simpa using hlim⟩ ?_ (fun b hb => by simp at hb; exact .inr (by omega))
        refine ⟨cur', hheap', ?_, by simpa using hge, hcm', ?_, ?_⟩
        · have e1 : (cur.toList.take (xs.length * i.size)).toArray.size = xs.length * t.size := by rw [List.size_toArray, holdl, hsz]
          simp only [cur', Array.size_append, e1, List.size_toArray, hnc.1, size_zeroCells, hzs, ← Nat.add_mul]
          congr 1; omega
        · show (if g.w.heap.size = g.w.heap.size then _ else _) = _
          rw [if_pos rfl]
        · have : cur'.toList.take ((xs ++ ys).length * t.size) = cur.toList.take (xs.length * i.size) ++ news := by
            simp only [cur', Array.toList_append]
            have hlen1 : (cur.toList.take (xs.length * i.size) ++ news).length = (xs ++ ys).length * t.size := by rw [List.length_append, holdl, hnl, ← Nat.add_mul, List.length_append, hsz]
            rw [List.take_append_of_le_length (by rw [hlen1]; exact Nat.le_refl _), ← hlen1, List.take_length]
          rw [this]
          exact (hcl.mono e).append (hnc.mono e)
theorem OpR.loosen {α : Type} {t : Ty α} (hF : Flat t) {E : TypeId} {o : Oper} {key : Nat} {xs : List α} (h : OpR P o env res [] (fun k : Tok => tO t k xs) (fun k => [(key, Own t E k xs.length)])) :
    OpR P o env res [] (fun k : Tok => tU k xs.length) (fun k => [(key, OwnU t E k xs)]) := by
  intro a g K Q hc hd hK
  refine h a g K Q hc hd fun k v g1 e hv ho _ hob => ?_
  have ho' : (Own t E k xs.length).holds g1 := ho _ (List.mem_singleton.2 rfl)
  obtain ⟨hv1, hv2, hv3, hv4⟩ := hv
  have hk : ∀ b, k.map Prod.fst = some b → ((res.pick []).blks b ∧ g.S b = 0) ∨ g.w.heap.size ≤ b := fun b hb => by
    rcases hob b ⟨_, List.mem_singleton.2 rfl, hb⟩ with ⟨y, hy, _⟩ | h1
    · have := (List.mem_filter.1 hy).2
      simp [memB] at this
    · exact .inr h1
  refine hK k v (g1.fixd k 0) (e.loose hk) ⟨hv1, hv2, hv3⟩ (fun y hy => ?_) (List.pairwise_singleton _ _) ?_
  · rw [List.mem_singleton.1 hy]
    exact OwnU.loose hF ho' hv4
  · rintro b ⟨y, hy, hb⟩
    rw [List.mem_singleton.1 hy] at hb
    exact (hk b hb).imp (fun h => h.1) id
end
def tUT {α : Type} (k : Tok) : Ty (List α) where
  size := 1
  agg := false
  rep := fun _ cs xs => cs = [.slice k.addr xs.length k.cap] ∧ xs.length ≤ k.cap ∧ xs.length ≤ lim
  len := fun ⟨h, _⟩ => by rw [h]; rfl
  one := fun ⟨h, _⟩ c hc => by
    rw [h] at hc
    rw [List.mem_singleton.1 hc]; rfl
  mono := fun _ h => h
  sing := fun _ => rfl
section
variable {P : Program} {env : Env} {res : Rs}
theorem Op1.ofUT {α : Type} {k : Tok} {xs : List α} {o : Oper} (h : Op1 P o env res ((tUT k).is xs)) : Op1 P o env res (tU k xs.length) := h.weak fun v g ⟨cs, ⟨h1, h2, h3⟩, h4⟩ => by
  subst h1
  exact ⟨h4, h2, h3⟩
end
section
variable {P : Program} {N : Nat} {g0 : G} {T0 : Nat → Prop} {env : Env} {res : Rs}
end
section
variable {P : Program} {env : Env} {res : Rs} {d : Option Tmp} {ty : TypeId} {pos : String} {aft : Array Edge} {gd : Option (Nat × Bool)}
end
end Go.Dec
