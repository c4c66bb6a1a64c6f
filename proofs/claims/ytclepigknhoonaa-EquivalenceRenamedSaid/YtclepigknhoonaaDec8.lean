/-
  Rules for nil slices and for what package slices does with capacities.
-/
import Derived.Test.YtclepigknhoonaaDec7
set_option linter.unusedVariables false
set_option linter.unusedSimpArgs false
namespace Go.Dec
open Go

section
variable {P : Program} {N : Nat} {g0 : G} {T0 : Nat → Prop} {ks : List KF} {B : Exit → Act → World → Prop} {env : Env} {res : Rs} {d : Option Tmp} {ty : TypeId} {pos : String} {aft : Array Edge} {gd : Option (Nat × Bool)}

theorem OpR.same {o : Oper} {ρ : Type} {A : ρ → Asn} (h : ∀ a g, Cx env res a g → ∃ x v, (execOp a.eval o).run P g.w = .ok (.value v) g.w ∧ (A x).holds v g) : OpR P o env res [] A (fun _ => []) := by
  intro a g K Q hc _ hK
  obtain ⟨x, v, hr, hv⟩ := h a g hc
  show o.upon P a K Q ((execOp a.eval o).run P g.w)
  rw [hr]
  exact hK x v g (Ext.refl _ _) hv (fun _ h => by cases h) List.Pairwise.nil (fun b ⟨y, hy, _⟩ => by cases hy)

theorem run_eql_slice {P : Program} {T e : TypeId} (hT : P.underlying T = some (.slice e)) (p : Option Addr) (n c : Nat) (w : World) : (binOp .eql T (.slice p n c) (.slice none 0 0)).run P w = .ok (.bool p.isNone) w := by
  have h : ∀ d, (Op.equalIn (d + 1) T (.slice p n c) (.slice none 0 0)).run P w = .ok p.isNone w := by
    intro d; cases p <;> simp [Op.equalIn, run_underlying hT]
  have h2 : (Op.equal T (.slice p n c) (.slice none 0 0)).run P w = .ok p.isNone w := h 9999
  simp only [binOp]
  simp [h2]
theorem run_neq_slice {P : Program} {T e : TypeId} (hT : P.underlying T = some (.slice e)) (p : Option Addr) (n c : Nat) (w : World) : (binOp .neq T (.slice p n c) (.slice none 0 0)).run P w = .ok (.bool (!p.isNone)) w := by
  have h : ∀ d, (Op.equalIn (d + 1) T (.slice p n c) (.slice none 0 0)).run P w = .ok p.isNone w := by
    intro d; cases p <;> simp [Op.equalIn, run_underlying hT]
  have h2 : (Op.equal T (.slice p n c) (.slice none 0 0)).run P w = .ok p.isNone w := h 9999
  simp only [binOp]
  simp [h2]

/-- x == nil: where it holds the slice is empty. -/
theorem OpR.eqNil {α : Type} {t : Ty α} {x : Operand} {xs : List α} {T T' e : TypeId} (hT : P.underlying T = some (.slice e)) (hx : Opd env x ((tL t).is xs)) :
    OpR P ⟨d, .binOp .eql T x (.const (.slice none 0 0)) T', ty, pos, aft, gd⟩ env res [] (fun b : {b : Bool // b = true → xs = []} => tB.is b.1) (fun _ => []) :=
  OpR.same fun a g hc => by
    obtain ⟨p, c, hv, h2, h3, h4, h5⟩ := hx.atL hc
    refine ⟨⟨p.isNone, fun h => ?_⟩, .bool p.isNone, ?_, Asn.bool⟩
    · cases p with
      | none => exact h5
      | some _ => cases h
    · exact exec_bin hv rfl (eqGuard_at_slice _ _ _ _ _ _ _ _) (run_eql_slice hT _ _ _ _)

theorem Opd.atLn {α : Type} {t : Ty α} {x : Operand} {xs : List α} (h : Opd env x ((Dec.tLn t).is xs)) {a : Act} {g : G} (hc : Cx env res a g) :
    ∃ p c, a.eval x = .slice p xs.length c ∧ Row t g p xs ∧ (xs = [] → p = none) := by
  obtain ⟨cs, ⟨p, c, h1, h2, h3, h4, h5, h6⟩, hv⟩ := h a g hc.henv
  exact ⟨p, c, by rw [hv, h1]; rfl, h5, h6⟩

theorem Op1.eqNil {α : Type} {t : Ty α} {x : Operand} {xs : List α} {T T' e : TypeId} (hT : P.underlying T = some (.slice e)) (hx : Opd env x ((tLn t).is xs)) :
    Op1 P ⟨d, .binOp .eql T x (.const (.slice none 0 0)) T', ty, pos, aft, gd⟩ env res (tB.is xs.isEmpty) :=
  Op1.same fun a g hc => by
    obtain ⟨p, c, hv, h5, h6⟩ := hx.atLn hc
    refine ⟨.bool p.isNone, exec_bin hv rfl (eqGuard_at_slice _ _ _ _ _ _ _ _) (run_eql_slice hT _ _ _ _), ?_⟩
    have : p.isNone = xs.isEmpty := by
      cases p with
      | none => rw [show xs = [] from h5]; rfl
      | some _ => cases xs with
        | nil => cases h6 rfl
        | cons _ _ => rfl
    rw [← this]; exact Asn.bool
theorem Op1.neNil {α : Type} {t : Ty α} {x : Operand} {xs : List α} {T T' e : TypeId} (hT : P.underlying T = some (.slice e)) (hx : Opd env x ((tLn t).is xs)) :
    Op1 P ⟨d, .binOp .neq T x (.const (.slice none 0 0)) T', ty, pos, aft, gd⟩ env res (tB.is (!xs.isEmpty)) :=
  Op1.same fun a g hc => by
    obtain ⟨p, c, hv, h5, h6⟩ := hx.atLn hc
    refine ⟨.bool (!p.isNone), exec_bin hv rfl (eqGuard_at_slice _ _ _ _ _ _ _ _) (run_neq_slice hT _ _ _ _), ?_⟩
    have : p.isNone = xs.isEmpty := by
      cases p with
      | none => rw [show xs = [] from h5]; rfl
      | some _ => cases xs with
        | nil => cases h6 rfl
        | cons _ _ => rfl
    rw [← this]; exact Asn.bool

/-! ### slices.Grow of nil -/

theorem Op1.capNil {α : Type} {t : Ty α} {x : Operand} {T e : TypeId} (hT : P.underlying T = some (.slice e)) (hx : Opd env x (tO t none [])) :
    Op1 P ⟨d, .call ⟨.builtin .cap, #[x], #[T]⟩, ty, pos, aft, gd⟩ env res ((tI .i64).is 0) :=
  Op1.same fun a g hc => by
    have hv := (hx a g hc.henv).1
    exact ⟨.int .i64 0, by simp [execOp, resolve, invoke, builtin, Builtin.cap_, run_underlying hT, hv, goInt, Tok.addr, Tok.cap], Asn.int (inR64.2 (by omega))⟩

/-- A new block of n elements of which none is sealed yet. -/
def rawO (k : Tok) (n : Nat) : Asn := ⟨fun v _ => v = .slice k.addr n k.cap ∧ n ≤ k.cap ∧ k.isSome = true, fun _ h => h⟩

theorem OpR.growNil {α : Type} {t : Ty α} {E T U : TypeId} {s x : Operand} {n : Int} {key : Nat} (hT : P.underlying T = some (.slice E)) (hU : P.underlying U = some (.int .i64)) (hE : ElAt P E t) (hs : Opd env s (tO t none [])) (hx : Opd env x ((tI .i64).is n))
    (h0 : 0 < n) (hl : n ≤ 274877906944) :
    OpR P ⟨d, .call ⟨.builtin .append, #[s, x], #[T, U]⟩, ty, pos, aft, gd⟩ env res [] (fun k : Tok => rawO k n.toNat) (fun k => [(key, Own t E k 0)]) := by
  intro a g K Q hc hd hK
  obtain ⟨i, z, hi, hz, hsz, hby, hzs⟩ := hE.row
  have hv := (hs a g hc.henv).1
  obtain ⟨hxv, hin⟩ := hx.atInt hc
  have hb : n.toNat * i.bytes ≤ 140737488355328 := by
    have := Nat.mul_le_mul (show n.toNat ≤ 274877906944 by omega) hby
    omega
  have hw : IntKind.i64.wrap n = n := wrap_in hin
  have h48 : ¬ (n * (i.bytes : Int) > 281474976710656) := by
    have h1 : n = (n.toNat : Int) := by omega
    rw [h1, ← Int.natCast_mul]; omega
  have hn0 : n.toNat ≠ 0 := by omega
  have hcap : Builtin.nextslicecap n.toNat 0 * i.bytes ≤ 281474976710656 := by rw [nextslicecap_zero (by omega)]; omega
  let cap := grownCap g.w n.toNat 0 E
  let cur : Array Value := Builtin.zeroCells z.cells n.toNat ++ Builtin.zeroCells z.cells (cap - n.toNat)
  have hz1 : (zeroValue E).run P g.w = .ok z g.w := by simp [zeroValue, typeInfo, hi, hz]
  have hz2 : (zeroValue E).run P g.w.drew = .ok z g.w.drew := by simp [zeroValue, typeInfo, hi, hz]
  have hge := grownCap_ge g.w n.toNat 0 E
  have hcm : cap ≤ maxLen := grownCap_le_maxLen g.w n.toNat 0 E (by unfold maxLen; omega)
  have hrun : (Builtin.append_ #[T, U] ty #[.slice none 0 0, .int .i64 n]).run P g.w = .ok (.slice (some ⟨g.w.heap.size, 0, none⟩) n.toNat cap) (g.w.drew.alloc (.cells cur E)) := by
    have hpos := hE.pos
    have hm : ¬ (n.toNat * i.size = 0) := by
      intro h; rcases Nat.mul_eq_zero.1 h with h | h <;> omega
    have h1 : ¬ n < 0 := by omega
    have h2 : ¬ (9223372036854775807 < max n 0) := by omega
    have h3 : ¬ (281474976710656 < Builtin.nextslicecap n.toNat 0 * i.bytes) := by omega
    have h4 : ¬ (281474976710656 < n * (i.bytes : Int)) := by omega
    have h5 : ¬ n ≤ 0 := by omega
    simp [Builtin.append_, run_underlying hT, run_underlying hU, sizeOf, typeInfo, hi, asInt, asIntOf, hw, h1, h2, h3, h4, h5, hm, Question.forced, Builtin.firstCells, hz2, newRow, grownCap, cur, cap, zeroValue, hz]
  unfold Oper.wp execOp
  simp only [resolve, invoke, builtin, Sem.run_bind, Sem.run_pure, Result.andThen_ok, List.map_toArray, List.map_cons, List.map_nil, hv, hxv, Tok.addr, Tok.cap, Option.map_none, List.length_nil, hrun]
  let g' : G := g.drew.alloc (.cells cur E) 0
  have e : Ext No g g' := (Ext.drew No g).trans' (Ext.alloc No _ _ _)
  have hheap : g'.w.heap[g.w.heap.size]? = some (.cells cur E (0, 0)) := heap_alloc_new g.w.drew _
  refine hK (some (g.w.heap.size, cap)) _ g' e.no ⟨rfl, hge, rfl⟩ ?_ (List.pairwise_singleton _ _) ?_
  · intro y hy
    rw [List.mem_singleton.1 hy]
    refine ⟨cur, hheap, ?_, Nat.zero_le _, hcm, ?_⟩
    · simp only [cur, Array.size_append, size_zeroCells, hzs, ← Nat.add_mul]
      congr 1; omega
    · show (if g.w.heap.size = g.w.heap.size then _ else _) = _
      rw [if_pos rfl, Nat.zero_mul]
  · rintro b ⟨y, hy, hb⟩
    rw [List.mem_singleton.1 hy] at hb
    simp [Own] at hb
    exact .inr (by omega)

theorem Op1.rawHi {α : Type} {t : Ty α} {E T : TypeId} {k : Tok} {n : Nat} {x y : Operand} (hT : P.underlying T = some (.slice E)) (hsz : ∀ w, (sizeOf E).run P w = .ok t.size w) (hx : Opd env x (rawO k n)) (hy : Opd env y ((tI .i64).is 0)) :
    Op1 P ⟨d, .slice T x none (some y) none, ty, pos, aft, gd⟩ env res (tO t k []) :=
  Op1.same fun a g hc => by
    obtain ⟨hv, hn, hk⟩ := hx a g hc.henv
    have h1 := (hy.atInt hc).1
    cases k with
    | none => cases hk
    | some q =>
      refine ⟨.slice (Tok.addr (some q)) 0 q.2, ?_, rfl, Nat.zero_le _, Nat.zero_le _, .inl rfl, fun i x hx => by simp at hx⟩
      by_cases hq : q.2 = 0
      · simp [execOp, hv, h1, Instr.sliceAt, Instr.slice, Instr.sliceBounds, Instr.sliceBound, asIntOf, run_underlying hT, hsz, Tok.addr, Tok.cap, hq]
      · simp [execOp, hv, h1, Instr.sliceAt, Instr.slice, Instr.sliceBounds, Instr.sliceBound, asIntOf, run_underlying hT, hsz, Tok.addr, Tok.cap, hq, Addr.add]

theorem Op1.sliceNilHi {α : Type} {t : Ty α} {E T : TypeId} {x y : Operand} (hT : P.underlying T = some (.slice E)) (hsz : ∀ w, (sizeOf E).run P w = .ok t.size w) (hx : Opd env x (tO t none [])) (hy : Opd env y ((tI .i64).is 0)) :
    Op1 P ⟨d, .slice T x none (some y) none, ty, pos, aft, gd⟩ env res (tO t none []) :=
  Op1.same fun a g hc => by
    have hv := (hx a g hc.henv).1
    have h1 := (hy.atInt hc).1
    refine ⟨.slice none 0 0, ?_, rfl, Nat.le_refl _, Nat.zero_le _, rfl⟩
    simp [execOp, hv, h1, Instr.sliceAt, Instr.slice, Instr.sliceBounds, Instr.sliceBound, asIntOf, run_underlying hT, hsz, Tok.addr, Tok.cap]

end
end Go.Dec
