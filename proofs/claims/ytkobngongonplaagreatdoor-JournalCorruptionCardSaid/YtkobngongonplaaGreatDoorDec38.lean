/-
  Loose slices that are cut behind, that are looked at by a call; bytes of a string that are written.
-/
import Derived.Test.YtkobngongonplaaGreatDoorDec36
import Derived.Test.YtkobngongonplaaGreatDoorDec33
import Derived.Test.YtkobngongonplaaGreatDoorDec12
import Derived.Test.YtkobngongonplaaGreatDoorDec29
set_option linter.unusedVariables false
set_option linter.unusedSimpArgs false
namespace Go.Dec
open Go
theorem slcHi_in {α : Type} {xs v : List α} {j : Int} (h : Dec.slcHi xs j = some v) : 0 ≤ j ∧ j.toNat ≤ xs.length ∧ v = xs.take j.toNat := by
  unfold Dec.slcHi at h
  split at h
  · rename_i hh
    cases h
    exact ⟨hh.1, by omega, rfl⟩
  · cases h
theorem OwnU.cut {α : Type} {t : Ty α} {E : TypeId} {k : Tok} {xs : List α} {g : G} (h : (OwnU t E k xs).holds g) (m : Nat) : (OwnU t E k (xs.take m)).holds g := by
  cases k with
  | none =>
    have h : xs = [] := h
    subst h
    show List.take m [] = []
    simp
  | some p =>
    obtain ⟨cur, h1, h2, h3, h4, h5, h6⟩ := h
    have hl : (xs.take m).length ≤ xs.length := by rw [List.length_take]; omega
    have hm := Nat.mul_le_mul_right t.size hl
    refine ⟨cur, h1, h2, by omega, h4, h5, ?_, fun c hc => ?_, fun i x hx => ?_⟩
    · have := h6.1
      rw [List.length_take] at this ⊢
      omega
    · refine h6.2.1 c ?_
      obtain ⟨j, hj⟩ := List.getElem?_of_mem hc
      rw [List.getElem?_take] at hj
      split at hj
      · exact List.mem_of_getElem? (i := j) (by rw [List.getElem?_take, if_pos (by omega)]; exact hj)
      · cases hj
    · have hil := (List.getElem?_eq_some_iff.1 hx).1
      rw [List.getElem?_take] at hx
      split at hx
      · obtain ⟨ds, q1, q2⟩ := h6.2.2 i x hx
        have hdl := t.len q1
        refine ⟨ds, q1, fun j v hj => ?_⟩
        have hjl := (List.getElem?_eq_some_iff.1 hj).1
        have h7 := q2 j v hj
        have hi2 := Nat.mul_le_mul_right t.size (show i + 1 ≤ (xs.take m).length by omega)
        rw [Nat.add_mul, Nat.one_mul] at hi2
        rw [List.getElem?_take] at h7 ⊢
        split at h7
        · rw [if_pos (by omega)]; exact h7
        · cases h7
      · cases hx
section
variable {P : Program} {env : Env} {res : Rs} {d : Option Tmp} {ty : TypeId} {pos : String} {aft : Array Edge} {gd : Option (Nat × Bool)}
theorem OpR.cutU {α : Type} {t : Ty α} {T E : TypeId} {x y : Operand} {k : Tok} {xs v : List α} {j : Int} {key : Nat} {kk : IntKind} (h : Dec.slcHi xs j = some v) (hT : P.underlying T = some (.slice E)) (hsz : ∀ w, (sizeOf E).run P w = .ok t.size w) (hx : Opd env x (tU k xs.length)) (hy : Opd env y ((tI kk).is j))
    (hr : res.pick [key] = [(key, OwnU t E k xs)]) :
    OpR P ⟨d, .slice T x none (some y) none, ty, pos, aft, gd⟩ env res [key] (fun k' : Tok => tU k' v.length) (fun k' => [(key, OwnU t E k' v)]) := by
  obtain ⟨h0, h1, rfl⟩ := slcHi_in h
  obtain ⟨m, rfl⟩ : ∃ m : Nat, j = (m : Int) := ⟨j.toNat, by omega⟩
  simp only [Int.toNat_natCast] at h1 ⊢
  intro a g K Q hc hd hK
  obtain ⟨hv, h2, h3⟩ := hx a g hc.henv
  have hyv := (hy.atInt hc).1
  have hlen : (xs.take m).length = m := by rw [List.length_take]; omega
  have hb : (Instr.sliceBounds true xs.length k.cap none (some (a.eval y)) none).run P g.w = .ok (0, m, k.cap) g.w := by
    have h4 : m ≤ k.cap := by omega
    rw [hyv]
    simp [Instr.sliceBounds, Instr.sliceBound, asIntOf, h4]
  have hrun : (Instr.sliceAt T (.slice k.addr xs.length k.cap) none (some (a.eval y)) none).run P g.w = .ok (.slice k.addr m k.cap) g.w := by
    have ha : (if k.cap = 0 then k.addr else k.addr.map (·.add (0 * t.size))) = k.addr := by
      split
      · rfl
      · cases k with
        | none => rfl
        | some p => simp [Tok.addr, Addr.add]
    simp only [Instr.sliceAt, Instr.slice, Sem.run_bind, run_underlying hT, Result.andThen_ok, hb, hsz, Sem.run_pure, ha, Nat.sub_zero]
  have hex : (execOp a.eval ⟨d, .slice T x none (some y) none, ty, pos, aft, gd⟩).run P g.w = .ok (.value (.slice k.addr m k.cap)) g.w := by
    simp only [execOp, hv, Option.map, Sem.run_bind, hrun, Result.andThen_ok]
    rfl
  show Oper.upon P _ a K Q ((execOp a.eval _).run P g.w)
  rw [hex]
  have hres : (OwnU t E k xs).holds g := hc.hres _ (pick_in hr)
  refine hK k _ g (Ext.refl _ _) ⟨by rw [hlen], by rw [hlen]; omega, by rw [hlen]; omega⟩ (fun y hy => ?_) (List.pairwise_singleton _ _) (fun b hb => .inl ?_)
  · rw [List.mem_singleton.1 hy]; exact OwnU.cut hres _
  · exact (blks_pick hr b).2 (let ⟨y, hy, hyb⟩ := hb; by rw [List.mem_singleton.1 hy] at hyb; exact hyb)
theorem OpR.lookU {α β : Type} {t : Ty α} {r : Ty β} (hF : Flat t) (hR : Flat r) {E : TypeId} {f : FuncId} {n : Nat} {xs : List Operand} {ats : Array TypeId} {As : List Asn} {y : β} {k : Tok} {l : List α} {key : Nat}
    (hcall : ∀ as w, (callFunc f as).run P w = .ok (.enter f as) w) (hf : FSpec P f As (r.is y)) (hs : look n env = some (tU k l.length)) (hx : Opds ((n, tO t k l) :: env) xs As)
    (hr : res.pick [key] = [(key, OwnU t E k l)]) :
    OpR P ⟨d, .call ⟨.value (.func f), xs.toArray, ats⟩, ty, pos, aft, gd⟩ env res [key] (fun _ : Unit => r.is y) (fun _ => [(key, OwnU t E k l)]) := by
  intro a g K Q hc hd hK
  have hres : (OwnU t E k l).holds g := hc.hres _ (pick_in hr)
  obtain ⟨e1, hown, hrow⟩ := OwnU.fixd hres
  have h1 := Op1.call (P := P) (env := (n, tO t k l) :: env) (res := []) (d := d) (ty := ty) (pos := pos) (aft := aft) (gd := gd) (ats := ats) hcall hf hx
  refine h1 a (g.fixd k (l.length * t.size)) K Q ⟨fixd_env hs hres hc.henv, fun y hy => by cases hy⟩ ?_
  intro v g1 e2 hv
  have e3 : Ext (res.pick [key]).blks g g1 := (e1.mono fun b hb => (blks_pick hr b).2 hb).trans e2 fun _ _ h => h.elim
  have hk' : ∀ b, k.map Prod.fst = some b → ((res.pick [key]).blks b ∧ g.S b = 0) ∨ g.w.heap.size ≤ b := fun b hb => .inl ⟨(blks_pick hr b).2 hb, OwnU.zero hres hb⟩
  have hown1 : (Own t E k l.length).holds g1 := (Own t E k l.length).stay e2 (fun _ _ h => h.elim) hown
  have hrow1 : Row t g1 k.addr l := hrow.mono e2
  refine hK () v (g1.fixd k 0) (e3.loose hk') (let ⟨cs, q1, q2⟩ := hv; ⟨cs, hR _ _ _ _ q1, q2⟩) (fun y hy => ?_) (List.pairwise_singleton _ _) (fun b hb => .inl (by rw [hr]; exact hb))
  rw [List.mem_singleton.1 hy]
  exact OwnU.loose hF hown1 hrow1
def OwnB (E : TypeId) (k : Tok) (xs : List Int) : Res where
  blk := fun x => k.map Prod.fst = some x
  holds := fun g => match k with
    | none => xs = []
    | some p => ∃ cur fr, g.w.heap[p.1]? = some (.cells cur E fr) ∧ cur.size ≤ fr.1 ∧ xs.length ≤ cur.size ∧ g.S p.1 = 0 ∧ ∀ (i : Nat) u, xs[i]? = some u → inR .u8 u ∧ cur[i]? = some (.int .u8 u)
  stay := fun {T g g'} e hn h => by
    cases k with
    | none => exact h
    | some p =>
      obtain ⟨cur, fr, h1, h2, h3, h4, h5⟩ := h
      have hlt : p.1 < g.w.heap.size := (Array.getElem?_eq_some_iff.1 h1).1
      have := e.same p.1 hlt (hn p.1 rfl)
      exact ⟨cur, fr, this.1.trans h1, h2, h3, this.2.trans h4, h5⟩
  lt := fun {g b} h hb => by
    cases k with
    | none => cases hb
    | some p =>
      obtain ⟨cur, fr, h1, _⟩ := h
      have hlt : p.1 < g.w.heap.size := (Array.getElem?_eq_some_iff.1 h1).1
      cases hb
      exact hlt
theorem OpR.bytesB {x : Operand} {l : Str} {T U E : TypeId} (key : Nat) (hT : P.underlying T = some .string) (hU : P.underlying U = some (.slice E)) (hE : P.underlying E = some (.int .u8)) (hx : Opd env x (tS.is l)) :
    OpR P ⟨d, .convert T U x, ty, pos, aft, gd⟩ env res [] (fun k : Tok => tU k (bytesOf l).length) (fun k => [(key, OwnB E k (bytesOf l))]) := by
  intro a g K Q hc hd hK
  obtain ⟨h1, h2⟩ := hx.atStr hc
  have hrun := Lib.run_convert_string_bytes (P := P) g.w T U E (Dec.str l) hT hU hE
  have hlen : (Dec.str l).size = l.length := str_size l
  have hb : (bytesOf l).length = l.length := by simp [bytesOf]
  have hcap := grownCap_ge g.w (Dec.str l).size 0 E
  let g' : G := ⟨Lib.bytesWorld g.w E (Dec.str l), fun b => if b = g.w.heap.size then 0 else g.S b⟩
  have e : Ext No g g' := by
    refine ⟨rfl, rfl, rfl, ?_, fun b hb _ => ⟨Lib.bytesWorld_at_old g.w E _ b hb, ?_⟩, fun b i v hv => ⟨?_, ?_⟩, fun b n hv => hv.same (Lib.bytesWorld_at_old g.w E _ b hv.lt) ?_⟩
    · show g.w.heap.size ≤ (Lib.bytesWorld g.w E (Dec.str l)).heap.size
      rw [Lib.bytesWorld_size]; omega
    · show (if b = g.w.heap.size then _ else _) = _
      rw [if_neg (by omega)]
    · show i < (if b = g.w.heap.size then _ else _)
      have := hv.lt
      rw [if_neg (by omega)]; exact hv.1
    · show (Lib.bytesWorld g.w E (Dec.str l)).cell? _ = _
      rw [Lib.bytesWorld_old _ _ _ _ (show (⟨b, i, none⟩ : Addr).block < g.w.heap.size from hv.lt)]; exact hv.2
    · show g.S b ≤ (if b = g.w.heap.size then _ else _)
      have := hv.lt
      rw [if_neg (by omega)]; exact Nat.le_refl _
  have hex : (execOp a.eval ⟨d, .convert T U x, ty, pos, aft, gd⟩).run P g.w = .ok (.value (.slice (some ⟨g.w.heap.size, 0, none⟩) (Dec.str l).size (grownCap g.w (Dec.str l).size 0 E))) g'.w := by simp [execOp, h1, hrun, g']
  show Oper.upon P _ a K Q ((execOp a.eval _).run P g.w)
  rw [hex]
  refine hK (some (g.w.heap.size, grownCap g.w (Dec.str l).size 0 E)) _ g' e.no ⟨by rw [hb, hlen]; rfl, by rw [hb, ← hlen]; show _ ≤ grownCap _ _ _ _; omega, by rw [hb]; exact h2⟩ (fun y hy => ?_) (List.pairwise_singleton _ _) ?_
  · rw [List.mem_singleton.1 hy]
    have hcell : ∀ j, j < l.length → (Lib.bytesCells g.w E (Dec.str l))[j]? = some (.int .u8 ((l[j]?.getD 0).toNat : Int)) := fun j hj => by
      have := Lib.bytesWorld_cell g.w E (Dec.str l) j (by rw [hlen]; exact hj)
      rw [cell_of_row _ _ _ _ _ _ (Lib.bytesWorld_at_new g.w E (Dec.str l))] at this
      rw [this]
      simp [Dec.str, List.getD]
    refine ⟨_, _, Lib.bytesWorld_at_new g.w E (Dec.str l), Nat.le_refl _, ?_, if_pos rfl, fun i u hi => ?_⟩
    · rw [hb]
      rcases Nat.eq_zero_or_pos l.length with h0 | h0
      · omega
      · have := (Array.getElem?_eq_some_iff.1 (hcell (l.length - 1) (by omega))).1
        omega
    · have hil : i < l.length := by have := (List.getElem?_eq_some_iff.1 hi).1; omega
      have hu : u = (l[i].toNat : Int) := by simpa [bytesOf, hil] using hi.symm
      refine ⟨by rw [hu, inR8]; have := l[i].toNat_lt; omega, ?_⟩
      rw [hcell i hil, hu]
      simp [hil]
  · rintro b ⟨y, hy, hb⟩
    rw [List.mem_singleton.1 hy] at hb
    have hb : some g.w.heap.size = some b := hb
    cases hb
    exact .inr (Nat.le_refl _)
theorem Op1.loadOB {E E' : TypeId} {x : Operand} {k : Tok} {xs : List Int} {i : Int} {u : Int} (key : Nat) (h : Dec.idx xs i = some u) (ht : TyAt P E' (tI .u8)) (hr : findR key res = some (OwnB E k xs)) (hx : Opd env x (Bp (bk k) (i.toNat * (tI .u8).size))) :
    Op1 P ⟨d, .load E' x, ty, pos, aft, gd⟩ env res ((tI .u8).is u) :=
  Op1.same fun a g hc => by
    obtain ⟨_, _, q2⟩ := idx_in h
    have hres : (OwnB E k xs).holds g := hc.hres _ (findR_mem hr)
    cases k with
    | none =>
      have hres : xs = [] := hres
      rw [hres] at q2; simp at q2
    | some p =>
      obtain ⟨cur, fr, h1, h2, h3, h4, h5⟩ := hres
      obtain ⟨k1, k2⟩ := h5 _ _ q2
      have hv : a.eval x = .pointer (some ⟨p.1, i.toNat * (tI .u8).size, none⟩) := hx a g hc.henv
      have k3 : (tI .u8).rep g [.int .u8 u] u := ⟨rfl, k1⟩
      have := loadVar_cells (P := P) ht.agg ht.size (w := g.w) (b := p.1) (o := i.toNat * (tI .u8).size) (cs := [.int .u8 u]) ((tI .u8).len k3) (tI .u8).sing (fun j v hj => by
        have hj0 : j = 0 := by have := (List.getElem?_eq_some_iff.1 hj).1; simp at this; exact this
        subst hj0
        simp at hj; subst hj
        rw [cell_of_row _ _ _ _ _ _ h1]
        have : i.toNat * (tI .u8).size + 0 = i.toNat := Nat.mul_one _
        rw [this]; exact k2)
      exact ⟨mkVal (tI .u8).agg [.int .u8 u], by simp [execOp, hv, Instr.loadAt, Instr.sureAddr, this], _, k3, rfl⟩
theorem OpR.storeBy {E E' : TypeId} {x y : Operand} {k : Tok} {xs v : List Int} {i : Int} {u : Int} {key : Nat} (h : setC xs i u = some v) (ht : TyAt P E' (tI .u8)) (hx : Opd env x (Bp (bk k) (i.toNat * (tI .u8).size))) (hy : Opd env y ((tI .u8).is u)) (hr : res.pick [key] = [(key, OwnB E k xs)]) :
    OpR P ⟨none, .store E' x y, ty, pos, aft, gd⟩ env res [key] (fun _ : Unit => Asn.any) (fun _ => [(key, OwnB E k v)]) := by
  obtain ⟨hi0, hil, rfl⟩ := setC_out h
  intro a g K Q hc hd hK
  have hres : (OwnB E k xs).holds g := hc.hres _ (pick_in hr)
  cases k with
  | none =>
    have hx : xs = [] := hres
    rw [hx] at hil; simp at hil
  | some p =>
    obtain ⟨cur, fr, h1, h2, h3, h4, h5⟩ := hres
    generalize i.toNat = m at hil hx hK ⊢
    have hv : a.eval x = .pointer (some ⟨p.1, m, none⟩) := by
      have : a.eval x = .pointer (some ⟨p.1, m * (tI .u8).size, none⟩) := hx a g hc.henv
      rw [this]; exact congrArg (fun o => Value.pointer (some ⟨p.1, o, none⟩)) (Nat.mul_one m)
    obtain ⟨hyv, hyr⟩ := hy.atInt hc
    have hcell : g.w.cell? ⟨p.1, m, none⟩ = some (.int .u8 (xs[m]'hil)) := by
      rw [cell_of_row _ _ _ _ _ _ h1]
      exact (h5 m _ (List.getElem?_eq_getElem hil)).2
    have hfz : g.w.frozen? ⟨p.1, m, none⟩ = false := by
      unfold World.frozen?
      rw [h1]
      obtain ⟨lo, hi⟩ := fr
      have h2 : cur.size ≤ lo := h2
      have : ¬ lo ≤ m := by omega
      simp [this]
    have hst : (storeVar E' ⟨p.1, m, none⟩ (.int .u8 u)).run P g.w = .ok () (g.w.setCell ⟨p.1, m, none⟩ (.int .u8 u)) := by
      have hsz := ht.size
      have h1s : (tI .u8).size = 1 := rfl
      rw [h1s] at hsz
      have hs1 := run_store P g.w ⟨p.1, m, none⟩ (.int .u8 u) .plain rfl
      simp [storeVar, hsz, Value.cells, storeCells, Addr.add, hs1, hcell, hfz]
    have hex : (execOp a.eval ⟨none, .store E' x y, ty, pos, aft, gd⟩).run P g.w = .ok .skip (g.w.setCell ⟨p.1, m, none⟩ (.int .u8 u)) := by
      simp [execOp, hv, hyv, Instr.storeAt, Instr.sureAddr, hst]
    show Oper.upon P _ a K Q ((execOp a.eval _).run P g.w)
    rw [hex]
    have hheap : (g.w.setCell ⟨p.1, m, none⟩ (.int .u8 u)).heap[p.1]? = some (.cells (cur.setIfInBounds m (.int .u8 u)) E fr) := by
      simp [World.setCell, Array.getElem?_modify, h1]
    have e : Ext (fun x => x = p.1) g ⟨g.w.setCell ⟨p.1, m, none⟩ (.int .u8 u), g.S⟩ :=
      ext_of g.S rfl rfl rfl (by simp [World.setCell]) (fun x _ hx => ⟨heap_setCell_other _ _ _ _ hx, rfl⟩) (fun x hx => by rw [show x = p.1 from hx]; exact h4)
    refine hK () undef _ (e.mono (fun x hx => (blks_pick hr x).2 (by rw [show x = p.1 from hx]; rfl))) trivial (fun y hy => ?_) (List.pairwise_singleton _ _) (fun b' hb' => .inl ((blks_pick hr b').2 (let ⟨y, hy, hyb⟩ := hb'; by rw [List.mem_singleton.1 hy] at hyb; exact hyb)))
    rw [List.mem_singleton.1 hy]
    refine ⟨_, fr, hheap, by simpa using h2, by simpa using h3, h4, fun j w hj => ?_⟩
    by_cases hjm : j = m
    · subst hjm
      rw [List.getElem?_set_self hil] at hj
      cases hj
      refine ⟨hyr, ?_⟩
      rw [Array.getElem?_setIfInBounds, if_pos rfl, if_pos (by omega)]
    · rw [List.getElem?_set_ne (fun h => hjm h.symm)] at hj
      refine ⟨(h5 j w hj).1, ?_⟩
      rw [Array.getElem?_setIfInBounds, if_neg (fun h => hjm h.symm)]
      exact (h5 j w hj).2
theorem Op1.strOB {x : Operand} {k : Tok} {l : List Int} {T U E : TypeId} (key : Nat) (hT : P.underlying T = some (.slice E)) (hU : P.underlying U = some .string) (hE : P.underlying E = some (.int .u8)) (hr : findR key res = some (OwnB E k l)) (hx : Opd env x (tU k l.length)) :
    Op1 P ⟨d, .convert T U x, ty, pos, aft, gd⟩ env res (tS.is (strOf l)) :=
  Op1.same fun a g hc => by
    obtain ⟨hv, h1, h3⟩ := hx a g hc.henv
    have hres : (OwnB E k l).holds g := hc.hres _ (findR_mem hr)
    have hlen : (strOf l).length = l.length := by simp [strOf]
    refine ⟨.string (str (strOf l)), ?_, ⟨[.string (str (strOf l))], ⟨rfl, by rw [hlen]; exact h3⟩, rfl⟩⟩
    cases k with
    | none =>
      have hl : l = [] := hres
      subst hl
      have := Lib.run_convert_nil_bytes (P := P) g.w T U E 0 hT hE hU
      have h6 : a.eval x = .slice none 0 0 := hv
      simp [execOp, h6, this, strOf, str]
    | some p =>
      obtain ⟨cur, fr, q1, q2, q3, q4, q5⟩ := hres
      have hcell : ∀ j (hj : j < (strOf l).length), g.w.cell? ((⟨p.1, 0, none⟩ : Addr).add j) = some (.int .u8 ((strOf l)[j].toNat : Int)) := by
        intro j hj
        have hj' : j < l.length := by rw [← hlen]; exact hj
        obtain ⟨hin, h5⟩ := q5 j _ (List.getElem?_eq_getElem hj')
        have hb : (0 : Int) ≤ l[j] ∧ l[j] ≤ 255 := hin
        have he : ((strOf l)[j].toNat : Int) = l[j] := by
          simp [strOf]
          omega
        rw [he, Addr.add_lit, cell_of_row _ _ _ _ _ _ q1, Nat.zero_add]
        exact h5
      have := run_convert_bytes_back (P := P) g.w T U E ⟨p.1, 0, none⟩ p.2 (strOf l) hT hE hU hcell
      rw [hlen] at this
      have h6 : a.eval x = .slice (some ⟨p.1, 0, none⟩) l.length p.2 := hv
      simp [execOp, h6, this, str]
end
end Go.Dec
