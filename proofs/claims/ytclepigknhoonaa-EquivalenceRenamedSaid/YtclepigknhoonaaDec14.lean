/-
  Arrays.
-/
import Derived.Test.YtclepigknhoonaaDec13
set_option linter.unusedVariables false
set_option linter.unusedSimpArgs false
namespace Go.Dec
open Go

/-- An array of n elements, as a list. -/
def tA {α : Type} (n : Nat) (t : Ty α) : Ty (List α) where
  size := n * t.size
  agg := true
  rep := fun g cs xs => xs.length = n ∧ Cells t g cs xs
  len := fun h => by rw [h.2.1, h.1]
  one := fun h => h.2.2.1
  mono := fun e h => ⟨h.1, h.2.mono e⟩
  sing := fun h => by cases h

section
variable {P : Program} {env : Env} {res : Rs} {d : Option Tmp} {ty : TypeId} {pos : String} {aft : Array Edge} {gd : Option (Nat × Bool)}

theorem ZeroAt.array {α : Type} {n : Nat} {t : Ty α} {z : α} {T E : TypeId} {v : Value} {arr : Array Value} (he : ZeroAt P E t z) (hE : ∀ w, (zeroValue E).run P w = .ok v w) (hz : ∀ w, (zeroValue T).run P w = .ok (.agg arr) w)
    (harr : arr.toList = (List.replicate n v.cells.toList).flatten) (w0 : World) : ZeroAt P T (tA n t) (List.replicate n z) := by
  obtain ⟨v', hv', hr⟩ := he.zero
  have hvv : v' = v := by
    have h1 := hv' w0
    rw [hE w0] at h1
    cases h1; rfl
  subst hvv
  refine ⟨_, hz, fun g => ?_⟩
  obtain ⟨cs, h1, h2⟩ := hr g
  have hc : v'.cells = cs.toArray := by rw [h2]; exact t.cells h1
  refine ⟨arr.toList, ⟨by simp, ?_⟩, by simp [mkVal, tA]⟩
  rw [harr, hc]
  exact Cells.replicate h1 n

theorem Op1.buildA {α : Type} {t : Ty α} {E T : TypeId} {n : Nat} {ps : List (Nat × Operand)} {ys : List (Nat × α)} {z : α} {xs : List α} (hT : P.underlying T = some (.array n E)) (hsz : ∀ w, (sizeOf E).run P w = .ok t.size w) (hz : ZeroAt P T (tA n t) (List.replicate n z))
    (hp : Parts env t ps ys) (hlt : ∀ p ∈ ys, p.1 < n) (hxs : ys.foldl (fun l p => l.set p.1 p.2) (List.replicate n z) = xs) : Op1 P ⟨d, .build T ps.toArray, ty, pos, aft, gd⟩ env res ((tA n t).is xs) :=
  Op1.same fun a g hc => by
    obtain ⟨v, hv, hzr⟩ := hz.zero
    obtain ⟨cs0, hcs0, hv0⟩ := hzr g
    have hvc : v.cells = cs0.toArray := by rw [hv0]; exact (tA n t).cells hcs0
    obtain ⟨cs, h1, h2⟩ := fill_parts (n := n) hc.henv ps ys (List.replicate n z) cs0.toArray hp (by simp) hlt (by simpa using hcs0.2)
    rw [hxs] at h2
    have hl : xs.length = n := by
      have : ∀ (ys : List (Nat × α)) (l : List α), (ys.foldl (fun l p => l.set p.1 p.2) l).length = l.length := by
        intro ys
        induction ys with
        | nil => intro l; rfl
        | cons y ys ih => intro l; rw [List.foldl_cons, ih]; simp
      rw [← hxs, this]; simp
    refine ⟨.agg cs, ?_, ⟨cs.toList, ⟨hl, h2⟩, by simp [mkVal, tA]⟩⟩
    simp only [execOp, Instr.build, Sem.run_bind, hv, Result.andThen_ok, hvc, run_underlying hT, hsz, List.map_toArray, h1, Sem.run_pure]

/-- The address of an element of an array that is only read. -/
theorem Op1.idxA {α : Type} {t : Ty α} {E T : TypeId} {n : Nat} {x y : Operand} {xs : List α} {k : IntKind} {i : Int} {u : α} (h : Dec.idx xs i = some u) (hT : P.underlying T = some (.array n E)) (hsz : ∀ w, (sizeOf E).run P w = .ok t.size w)
    (hx : Opd env x ((tA n t).ptr xs)) (hy : Opd env y ((tI k).is i)) : Op1 P ⟨d, .indexAddr T x y, ty, pos, aft, gd⟩ env res (t.ptr u) :=
  Op1.same fun a g hc => by
    obtain ⟨b, o, hv, cs, ⟨hl, hcs⟩, hat⟩ := hx a g hc.henv
    have h1 := (hy.atInt hc).1
    unfold Dec.idx at h
    split at h
    · rename_i h0
      have hlt := (List.getElem?_eq_some_iff.1 h).1
      have hi : i < (n : Int) := by omega
      obtain ⟨ds, k1, k2⟩ := hcs.2.2 i.toNat u h
      refine ⟨.pointer (some ⟨b, o + i.toNat * t.size, none⟩), ?_, b, o + i.toNat * t.size, rfl, ds, k1, fun j v hj => ?_⟩
      · have ht : P.underlying T = some (.array n E) := hT
        simp [execOp, Instr.indexAt, asIntOf, hv, h1, run_underlying hT, hsz, h0, hi, Instr.sureAddr, Addr.add_lit]
      · rw [Nat.add_assoc]
        exact hat _ _ (k2 j v hj)
    · cases h

/-- An element of an array value. -/
theorem Op1.indexA {α : Type} {t : Ty α} {E T : TypeId} {n : Nat} {x y : Operand} {xs : List α} {k : IntKind} {i : Int} {u : α} (h : Dec.idx xs i = some u) (hT : P.underlying T = some (.array n E)) (ht : TyAt P E t)
    (hx : Opd env x ((tA n t).is xs)) (hy : Opd env y ((tI k).is i)) : Op1 P ⟨d, .index T x y, ty, pos, aft, gd⟩ env res (t.is u) :=
  Op1.same fun a g hc => by
    obtain ⟨cs, ⟨hl, hcs⟩, hv⟩ := hx a g hc.henv
    have hv' : a.eval x = .agg cs.toArray := hv
    have h1 := (hy.atInt hc).1
    unfold Dec.idx at h
    split at h
    · rename_i h0
      have hlt := (List.getElem?_eq_some_iff.1 h).1
      have hi : i < (n : Int) := by omega
      obtain ⟨ds, k1, k2⟩ := hcs.2.2 i.toNat u h
      have hpart : ∀ w, (part E cs.toArray (i.toNat * t.size)).run P w = .ok (mkVal t.agg ds) w := by
        intro w
        have hlen := t.len k1
        cases ha : t.agg with
        | true =>
          have hagg := ht.agg w
          rw [ha] at hagg
          have hex : cs.toArray.extract (i.toNat * t.size) (i.toNat * t.size + t.size) = ds.toArray := by
            apply Array.ext'
            simp only [List.extract_toArray, List.extract_eq_take_drop]
            apply List.ext_getElem?
            intro q
            rw [Nat.add_sub_cancel_left, List.getElem?_take, List.getElem?_drop]
            split
            · rename_i hq
              rw [← hlen] at hq
              rw [List.getElem?_eq_getElem hq]
              exact k2 q _ (List.getElem?_eq_getElem hq)
            · rename_i hq
              rw [List.getElem?_eq_none (by omega)]
          simp only [part, Sem.run_bind, hagg, Result.andThen_ok, ht.size, hex, mkVal, Sem.run_pure, if_true]
        | false =>
          have hagg := ht.agg w
          rw [ha] at hagg
          rw [t.sing ha] at hlen
          match ds, hlen with
          | [c], _ =>
            have hc0 := k2 0 c rfl
            rw [Nat.add_zero] at hc0
            simp [part, hagg, hc0, mkVal]
      refine ⟨mkVal t.agg ds, ?_, ds, k1, rfl⟩
      simp [execOp, Instr.index, asIntOf, hv', h1, run_underlying hT, ht.size, h0, hi, hpart]
    · cases h
end
end Go.Dec
