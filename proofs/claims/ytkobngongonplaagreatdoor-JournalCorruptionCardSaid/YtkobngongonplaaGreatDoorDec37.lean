/-
  slices.Reverse of a slice of the call's own, from the library's contract.
-/
import Derived.Test.YtkobngongonplaaGreatDoorDec36
import Derived.Shelf.SlicesQ.Reverse
set_option linter.unusedVariables false
set_option linter.unusedSimpArgs false
namespace Go.Dec
open Go Go.Proofs Go.Sort
def Cl (k : Nat) : Type := {l : List Value // l.length = k ∧ ∀ v ∈ l, v.oneCell' = true}
instance (k : Nat) : Inhabited (Cl k) := ⟨⟨List.replicate k (.bool false), by simp, fun v hv => by rw [List.eq_of_mem_replicate hv]; rfl⟩⟩
theorem Cells.split {α : Type} {t : Ty α} {g : G} {cs : List Value} {xs : List α} (h : Cells t g cs xs) : ∃ d : List (Cl t.size), d.length = xs.length ∧ (∀ (i : Nat) x y, d[i]? = some x → xs[i]? = some y → t.rep g x.1 y) ∧
    ∀ (i : Nat) x, d[i]? = some x → ∀ (j : Nat) v, x.1[j]? = some v → cs[i * t.size + j]? = some v := by
  have H : ∀ i : Fin xs.length, ∃ c : Cl t.size, t.rep g c.1 xs[i] ∧ ∀ (j : Nat) v, c.1[j]? = some v → cs[i * t.size + j]? = some v := by
    intro i
    obtain ⟨ds, h1, h2⟩ := h.2.2 i xs[i] (List.getElem?_eq_getElem i.2)
    exact ⟨⟨ds, t.len h1, t.one h1⟩, h1, h2⟩
  refine ⟨List.ofFn fun i => Classical.choose (H i), by simp, fun i x y hx hy => ?_, fun i x hx j v hv => ?_⟩
  · obtain ⟨hi, e⟩ := List.getElem?_eq_some_iff.1 hx
    have hi' : i < xs.length := by simpa using hi
    have := (Classical.choose_spec (H ⟨i, hi'⟩)).1
    rw [List.getElem?_eq_getElem hi'] at hy
    cases hy
    rw [← e, List.getElem_ofFn]
    exact this
  · obtain ⟨hi, e⟩ := List.getElem?_eq_some_iff.1 hx
    have hi' : i < xs.length := by simpa using hi
    have := (Classical.choose_spec (H ⟨i, hi'⟩)).2
    rw [← e, List.getElem_ofFn] at hv
    exact this j v hv
theorem putCells_get {cur F : Array Value} (j : Nat) (hF : F.size ≤ cur.size) : (putCells id 0 F cur)[j]? = if j < F.size then F[j]? else cur[j]? := by
  unfold putCells
  rw [Array.getElem?_mapIdx]
  by_cases hj : j < F.size
  · have hc : j < cur.size := by omega
    rw [if_pos hj, Array.getElem?_eq_getElem hc]
    simp [hj]
  · rw [if_neg hj]
    cases hc : cur[j]? with
    | none => rfl
    | some x => simp [hj]
theorem flat_get {k : Nat} (d : Array (Cl k)) (i j : Nat) (hi : i < d.size) (hj : j < k) : (flatK (fun c : Cl k => c.1) k d)[i * k + j]? = (d[i]!).1[j]? := by
  have hlt : i * k + j < d.size * k := by
    have := Nat.mul_le_mul_right k (show i + 1 ≤ d.size from hi)
    rw [Nat.add_mul, Nat.one_mul] at this; omega
  have e1 : (i * k + j) / k = i := by rw [Nat.mul_comm, Nat.mul_add_div (by omega), Nat.div_eq_of_lt hj, Nat.add_zero]
  have e2 : (i * k + j) % k = j := by rw [Nat.mul_comm, Nat.mul_add_mod, Nat.mod_eq_of_lt hj]
  have hsz : i * k + j < (flatK (fun c : Cl k => c.1) k d).size := by rw [size_flatK]; exact hlt
  have h1 := get_flatK (fun c : Cl k => c.1) k d (i * k + j) hlt
  rw [getElem!_pos (flatK (fun c : Cl k => c.1) k d) (i * k + j) hsz] at h1
  rw [Array.getElem?_eq_getElem hsz, h1, e1, e2]
  have hl : j < (d[i]!).1.length := by rw [(d[i]!).2.1]; exact hj
  rw [List.getElem?_eq_getElem hl, getElem!_pos (d[i]!).1 j hl]
theorem reverse_spec {P : Program} {f : FuncId} {α : Type} {t : Ty α} {E : TypeId}
    (hne : ∀ (blk off cap : Nat) (d : Array (Cl t.size)) (w : World), HoldsK (fun c : Cl t.size => c.1) t.size w blk off d → d.size ≤ 9223372036854775807 →
      Calls P f #[.slice (some ⟨blk, off, none⟩) d.size cap] w fun e w' => e = .returned (.tuple #[]) ∧ ∃ n, w' = putRowK (fun c : Cl t.size => c.1) t.size (Sort.ahead w n) blk off d.reverse)
    (he : ∀ (a : Option Addr) (cap : Nat) (w : World), Calls P f #[.slice a 0 cap] w fun e w' => e = .returned (.tuple #[]) ∧ w' = w)
    (key : Nat) (k : Tok) (xs : List α) : FSpecR P f [tU k xs.length] [(key, OwnU t E k xs)] (fun _ : Unit => Asn.any) (fun _ => [(key, OwnU t E k xs.reverse)]) := by
  intro g vs hvs hr hd
  match vs, hvs with
  | [v], hvs =>
    obtain ⟨⟨rfl, h1, h2⟩, _⟩ := hvs
    have hO : (OwnU t E k xs).holds g := hr _ List.mem_cons_self
    cases k with
    | none =>
      have hx : xs = [] := hO
      subst hx
      refine (he none _ g.w).mono ?_
      rintro e w' ⟨rfl, rfl⟩
      exact ⟨(), _, g, rfl, rfl, Ext.refl _ _, trivial, fun y hy => by rw [List.mem_singleton.1 hy]; exact hO, List.pairwise_singleton _ _, fun b ⟨y, hy, hb⟩ => by rw [List.mem_singleton.1 hy] at hb; cases hb⟩
    | some p =>
      obtain ⟨cur, q1, q2, q3, q4, q5, q6⟩ := hO
      obtain ⟨d, d1, d2, d3⟩ := q6.split
      have hle : xs.length * t.size ≤ cur.size := by rw [q2]; exact Nat.mul_le_mul_right _ q3
      have hsz : d.toArray.size = xs.length := by simpa using d1
      have hold : ∀ i j, i < xs.length → j < t.size → cur[i * t.size + j]? = (d.toArray[i]!).1[j]? := by
        intro i j hi hj
        have hid : i < d.length := by omega
        have e0 : d.toArray[i]! = d[i] := by rw [getElem!_pos d.toArray i (by simpa using hid)]; simp
        have hl : j < (d[i]).1.length := by rw [(d[i]).2.1]; exact hj
        have h3 := d3 i d[i] (List.getElem?_eq_getElem hid) j _ (List.getElem?_eq_getElem hl)
        have hlt : i * t.size + j < xs.length * t.size := by
          have := Nat.mul_le_mul_right t.size (show i + 1 ≤ xs.length from hi)
          rw [Nat.add_mul, Nat.one_mul] at this; omega
        rw [List.getElem?_take, if_pos hlt] at h3
        rw [e0, List.getElem?_eq_getElem hl, ← h3]
        simp
      have hH : HoldsK (fun c : Cl t.size => c.1) t.size g.w p.1 0 d.toArray := by
        intro j hj
        rw [size_flatK, hsz] at hj
        have hk : 0 < t.size := by
          rcases Nat.eq_zero_or_pos t.size with h0 | h0
          · rw [h0] at hj; omega
          · exact h0
        have hi : j / t.size < xs.length := by rw [Nat.div_lt_iff_lt_mul hk]; exact hj
        have hm : j % t.size < t.size := Nat.mod_lt _ hk
        have hj2 : j = j / t.size * t.size + j % t.size := (Nat.div_add_mod' j t.size).symm
        have hc : cur[j]? = some (id (flatK (fun c : Cl t.size => c.1) t.size d.toArray)[j]!) := by
          have hfs : j < (flatK (fun c : Cl t.size => c.1) t.size d.toArray).size := by rw [size_flatK, hsz]; exact hj
          have e1 := hold _ _ hi hm
          have e2 := flat_get d.toArray (j / t.size) (j % t.size) (by rw [hsz]; exact hi) hm
          rw [← hj2] at e1 e2
          rw [e1, ← e2, Array.getElem?_eq_getElem hfs, getElem!_pos (flatK (fun c : Cl t.size => c.1) t.size d.toArray) j hfs]; rfl
        rw [Nat.zero_add]
        refine ⟨?_, ?_⟩
        · rw [cell_of_row _ _ _ _ _ _ q1]; exact hc
        · simp [World.frozen?, q1]
      refine (show Calls P f #[.slice (some ⟨p.1, 0, none⟩) xs.length p.2] g.w _ from hsz ▸ hne p.1 0 p.2 d.toArray g.w hH (by rw [hsz]; unfold lim at h2; omega)).mono ?_
      rintro e w' ⟨rfl, n, rfl⟩
      let F := flatK (fun c : Cl t.size => c.1) t.size d.toArray.reverse
      have hFs : F.size = xs.length * t.size := by simp [F, size_flatK, d1]
      let cur' := putCells id 0 F cur
      have hheap : ∀ b, (putRowK (fun c : Cl t.size => c.1) t.size (Sort.ahead g.w n) p.1 0 d.toArray.reverse).heap[b]? = if b = p.1 then some (.cells cur' E (0, 0)) else g.w.heap[b]? := by
        intro b
        show ((Sort.ahead g.w n).heap.modify p.1 (onCells (putCells id 0 F)))[b]? = _
        rw [Array.getElem?_modify]
        by_cases hb : p.1 = b
        · subst hb
          rw [if_pos rfl, if_pos rfl]
          show (g.w.heap[p.1]?).map _ = _
          rw [q1]; rfl
        · rw [if_neg hb, if_neg (fun e => hb e.symm)]; rfl
      have hcs : cur'.size = cur.size := by simp [cur', putCells]
      have hext : Ext (Rs.blks [(key, OwnU t E (some p) xs)]) g ⟨putRowK (fun c : Cl t.size => c.1) t.size (Sort.ahead g.w n) p.1 0 d.toArray.reverse, g.S⟩ := by
        refine ext_of _ rfl rfl rfl ?_ (fun x hx hn => ⟨?_, rfl⟩) (fun x hx => ?_)
        · show g.w.heap.size ≤ (g.w.heap.modify p.1 _).size
          rw [Array.size_modify]; exact Nat.le_refl _
        · rw [hheap, if_neg]
          rintro rfl
          exact hn ⟨_, List.mem_singleton.2 rfl, rfl⟩
        · obtain ⟨y, hy, hb⟩ := hx
          rw [List.mem_singleton.1 hy] at hb
          have hb : some p.1 = some x := hb
          cases hb; exact q5
      refine ⟨(), _, ⟨_, g.S⟩, rfl, rfl, hext, trivial, fun y hy => ?_, List.pairwise_singleton _ _, fun b ⟨y, hy, hb⟩ => .inl ⟨_, List.mem_singleton.2 rfl, by rw [List.mem_singleton.1 hy] at hb; exact hb⟩⟩
      rw [List.mem_singleton.1 hy]
      have hget : ∀ i j, i < xs.length → j < t.size → cur'[i * t.size + j]? = (d.toArray.reverse[i]!).1[j]? := by
        intro i j hi hj
        have hlt : i * t.size + j < F.size := by
          rw [hFs]
          have := Nat.mul_le_mul_right t.size (show i + 1 ≤ xs.length from hi)
          rw [Nat.add_mul, Nat.one_mul] at this; omega
        show (putCells id 0 F cur)[_]? = _
        rw [putCells_get _ (by rw [hFs]; exact hle), if_pos hlt]
        exact flat_get _ i j (by simpa [d1] using hi) hj
      refine ⟨cur', (hheap p.1).trans (if_pos rfl), by rw [hcs]; exact q2, by rw [List.length_reverse]; exact q3, q4, q5, ?_⟩
      rw [List.length_reverse]
      refine ⟨by rw [List.length_take, List.length_reverse]; simp [hcs]; omega, fun c hc => ?_, fun i x hx => ?_⟩
      · obtain ⟨q, hq⟩ := List.getElem?_of_mem hc
        have hq2 : q < xs.length * t.size := by
          have := (List.getElem?_eq_some_iff.1 hq).1
          rw [List.length_take] at this; omega
        rw [List.getElem?_take, if_pos hq2] at hq
        have hk : 0 < t.size := by
          rcases Nat.eq_zero_or_pos t.size with h0 | h0
          · rw [h0] at hq2; omega
          · exact h0
        have hi : q / t.size < xs.length := by rw [Nat.div_lt_iff_lt_mul hk]; exact hq2
        have hm : q % t.size < t.size := Nat.mod_lt _ hk
        have hj2 : q = q / t.size * t.size + q % t.size := (Nat.div_add_mod' q t.size).symm
        have e1 := hget _ _ hi hm
        rw [← hj2] at e1
        have hq3 : cur'[q]? = some c := by simpa using hq
        rw [e1] at hq3
        exact (d.toArray.reverse[q / t.size]!).2.2 c (List.mem_of_getElem? hq3)
      · have hi : i < xs.length := by have := (List.getElem?_eq_some_iff.1 hx).1; simpa using this
        have hid : i < d.reverse.length := by simpa [d1] using hi
        have e0 : d.toArray.reverse[i]! = d.reverse[i] := by
          rw [getElem!_pos d.toArray.reverse i (by simpa [d1] using hi)]; simp
        refine ⟨(d.reverse[i]).1, t.mono hext ?_, fun j v hv => ?_⟩
        · rw [List.getElem?_reverse hi] at hx
          have hdi : d.reverse[i]? = some d.reverse[i] := List.getElem?_eq_getElem hid
          rw [List.getElem?_reverse (by omega)] at hdi
          rw [d1] at hdi
          exact d2 _ _ _ hdi hx
        · have hj : j < t.size := by have := (List.getElem?_eq_some_iff.1 hv).1; rwa [(d.reverse[i]).2.1] at this
          have hlt : i * t.size + j < xs.length * t.size := by
            have := Nat.mul_le_mul_right t.size (show i + 1 ≤ xs.length from hi)
            rw [Nat.add_mul, Nat.one_mul] at this; omega
          rw [List.getElem?_take, if_pos hlt]
          have := hget i j hi hj
          rw [e0, hv] at this
          simpa using this
end Go.Dec
