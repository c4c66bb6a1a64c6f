/-
  Unsigned numbers of 64 bits; slices of arrays; slices made of zeros; errors that are nil or not; pointers to variables of one's own, in cells.
-/
import Derived.Test.YtkobngongonplaaGreatDoorDec35
import Derived.Test.YtkobngongonplaaGreatDoorDec29
import Derived.Laws.MakeOwn
import Derived.Below
set_option linter.unusedVariables false
set_option linter.unusedSimpArgs false
namespace Go.Dec
open Go
theorem inRU {n : Int} : inR .u64 n ↔ 0 ≤ n ∧ n ≤ 18446744073709551615 := by
  unfold inR
  have h1 : IntKind.u64.min = 0 := by decide
  have h2 : IntKind.u64.max = 18446744073709551615 := by decide
  rw [h1, h2]
theorem wrap_u64 (n : Int) : IntKind.u64.wrap n = wrapU n := by
  show IntKind.wrap .u64 n = n % 18446744073709551616
  simp only [IntKind.wrap]
  rfl
theorem wrapU_in (n : Int) : inR .u64 (wrapU n) := by rw [← wrap_u64]; exact inR_wrap _ _
theorem shrU_in {x : Int} (n : Int) (h : inR .u64 x) : inR .u64 (shrU x n) := by
  rw [inRU] at *
  unfold shrU
  have hp : (0 : Int) < 2 ^ min n.toNat 64 := Int.pow_pos (by decide)
  rw [Int.fdiv_eq_ediv_of_nonneg _ (Int.le_of_lt hp)]
  exact ⟨Int.ediv_nonneg h.1 (Int.le_of_lt hp), Int.le_trans (Int.ediv_le_self _ h.1) h.2⟩
section
variable {P : Program} {env : Env} {res : Rs} {d : Option Tmp} {ty : TypeId} {pos : String} {aft : Array Edge} {gd : Option (Nat × Bool)}
section
variable {x y : Operand} {m n : Int} {T T' : TypeId}
theorem Op1.addU (hx : Opd env x ((tI .u64).is m)) (hy : Opd env y ((tI .u64).is n)) : Op1 P ⟨d, .binOp .add T x y T', ty, pos, aft, gd⟩ env res ((tI .u64).is (wrapU (m + n))) :=
  Op1.same fun a g hc => ⟨.int .u64 (wrapU (m + n)), by have h1 := (hx.atInt hc).1; have h2 := (hy.atInt hc).1; simp [execOp, h1, h2, binOp, eqGuard, Op.intArith, wrap_u64], Asn.int (wrapU_in _)⟩
theorem Op1.subU (hx : Opd env x ((tI .u64).is m)) (hy : Opd env y ((tI .u64).is n)) : Op1 P ⟨d, .binOp .sub T x y T', ty, pos, aft, gd⟩ env res ((tI .u64).is (wrapU (m - n))) :=
  Op1.same fun a g hc => ⟨.int .u64 (wrapU (m - n)), by have h1 := (hx.atInt hc).1; have h2 := (hy.atInt hc).1; simp [execOp, h1, h2, binOp, eqGuard, Op.intArith, wrap_u64], Asn.int (wrapU_in _)⟩
theorem Op1.mulU (hx : Opd env x ((tI .u64).is m)) (hy : Opd env y ((tI .u64).is n)) : Op1 P ⟨d, .binOp .mul T x y T', ty, pos, aft, gd⟩ env res ((tI .u64).is (wrapU (m * n))) :=
  Op1.same fun a g hc => ⟨.int .u64 (wrapU (m * n)), by have h1 := (hx.atInt hc).1; have h2 := (hy.atInt hc).1; simp [execOp, h1, h2, binOp, eqGuard, Op.intArith, wrap_u64], Asn.int (wrapU_in _)⟩
theorem Op1.negU (hx : Opd env x ((tI .u64).is m)) : Op1 P ⟨d, .unOp .neg T x, ty, pos, aft, gd⟩ env res ((tI .u64).is (wrapU (0 - m))) :=
  Op1.same fun a g hc => ⟨.int .u64 (wrapU (0 - m)), by have h1 := (hx.atInt hc).1; simp [execOp, h1, Op.unary, Op.intArith, wrap_u64], Asn.int (wrapU_in _)⟩
theorem Op1.andU (hx : Opd env x ((tI .u64).is m)) (hy : Opd env y ((tI .u64).is n)) : Op1 P ⟨d, .binOp .and T x y T', ty, pos, aft, gd⟩ env res ((tI .u64).is (Dec.andU m n)) :=
  Op1.same fun a g hc => ⟨.int .u64 (Dec.andU m n), by have h1 := (hx.atInt hc).1; have h2 := (hy.atInt hc).1; simp [execOp, h1, h2, binOp, eqGuard, Op.intBits, wrap_u64, Dec.andU]; rfl, Asn.int (wrapU_in _)⟩
theorem Op1.xorU (hx : Opd env x ((tI .u64).is m)) (hy : Opd env y ((tI .u64).is n)) : Op1 P ⟨d, .binOp .xor T x y T', ty, pos, aft, gd⟩ env res ((tI .u64).is (Dec.xorU m n)) :=
  Op1.same fun a g hc => ⟨.int .u64 (Dec.xorU m n), by have h1 := (hx.atInt hc).1; have h2 := (hy.atInt hc).1; simp [execOp, h1, h2, binOp, eqGuard, Op.intBits, wrap_u64, Dec.xorU]; rfl, Asn.int (wrapU_in _)⟩
theorem Op1.andI (hx : Opd env x ((tI .i64).is m)) (hy : Opd env y ((tI .i64).is n)) : Op1 P ⟨d, .binOp .and T x y T', ty, pos, aft, gd⟩ env res ((tI .i64).is (Dec.andI m n)) := by
  have h : Op1 P ⟨d, .binOp .and T x y T', ty, pos, aft, gd⟩ env res ((tI .i64).is (IntKind.i64.wrap (((m % 18446744073709551616).toNat &&& (n % 18446744073709551616).toNat : Nat) : Int))) :=
    Op1.same fun a g hc => ⟨.int .i64 (IntKind.i64.wrap (((m % 18446744073709551616).toNat &&& (n % 18446744073709551616).toNat : Nat) : Int)), by have h1 := (hx.atInt hc).1; have h2 := (hy.atInt hc).1; simp [execOp, h1, h2, binOp, eqGuard, Op.intBits]; rfl, Asn.int (inR_wrap _ _)⟩
  rw [IntKind.wrap_i64] at h; exact h
theorem Op1.xor8 (hx : Opd env x ((tI .u8).is m)) (hy : Opd env y ((tI .u8).is n)) : Op1 P ⟨d, .binOp .xor T x y T', ty, pos, aft, gd⟩ env res ((tI .u8).is (Dec.xor8 m n)) :=
  Op1.same fun a g hc => ⟨.int .u8 (Dec.xor8 m n), by have h1 := (hx.atInt hc).1; have h2 := (hy.atInt hc).1; simp [execOp, h1, h2, binOp, eqGuard, Op.intBits, wrap_u8, Dec.xor8]; rfl, Asn.int (wrap8_in _)⟩
theorem Op1.shrU {k : IntKind} (hx : Opd env x ((tI .u64).is m)) (hy : Opd env y ((tI k).is n)) (hn : 0 ≤ n) : Op1 P ⟨d, .binOp .shr T x y T', ty, pos, aft, gd⟩ env res ((tI .u64).is (Dec.shrU m n)) :=
  Op1.same fun a g hc => ⟨.int .u64 (Dec.shrU m n), by
    have h1 := (hx.atInt hc).1; have h2 := (hy.atInt hc).1
    have h3 : ¬ n < 0 := by omega
    simp [execOp, h1, h2, binOp, eqGuard, Op.shift, h3, Dec.shrU, IntKind.bits], Asn.int (shrU_in n (hx.atInt hc).2)⟩
theorem Op1.shrUU (hx : Opd env x ((tI .u64).is m)) (hy : Opd env y ((tI .u64).is n)) : Op1 P ⟨d, .binOp .shr T x y T', ty, pos, aft, gd⟩ env res ((tI .u64).is (Dec.shrU m n)) :=
  Op1.same fun a g hc => ⟨.int .u64 (Dec.shrU m n), by
    have h1 := (hx.atInt hc).1; have h2 := (hy.atInt hc).1
    have h3 : ¬ n < 0 := by have := inRU.1 (hy.atInt hc).2; omega
    simp [execOp, h1, h2, binOp, eqGuard, Op.shift, h3, Dec.shrU, IntKind.bits], Asn.int (shrU_in n (hx.atInt hc).2)⟩
end
theorem Op1.convK {k k' : IntKind} {x : Operand} {m : Int} {T U : TypeId} (hT : P.underlying T = some (.int k)) (hU : P.underlying U = some (.int k')) (hx : Opd env x ((tI k).is m)) : Op1 P ⟨d, .convert T U x, ty, pos, aft, gd⟩ env res ((tI k').is (k'.wrap m)) :=
  Op1.same fun a g hc => by
    have h1 := hx.atInt hc
    refine ⟨.int k' (k'.wrap m), ?_, Asn.int (inR_wrap _ _)⟩
    simp [execOp, h1.1, convert, run_underlying hT, run_underlying hU, Conv.intToInt]
theorem Op1.convU {k : IntKind} {x : Operand} {m : Int} {T U : TypeId} (hT : P.underlying T = some (.int k)) (hU : P.underlying U = some (.int .u64)) (hx : Opd env x ((tI k).is m)) : Op1 P ⟨d, .convert T U x, ty, pos, aft, gd⟩ env res ((tI .u64).is (wrapU m)) := by
  have := Op1.convK (P := P) (d := d) (ty := ty) (pos := pos) (aft := aft) (gd := gd) (res := res) hT hU hx
  rw [wrap_u64] at this; exact this
theorem Op1.conv64 {k : IntKind} {x : Operand} {m : Int} {T U : TypeId} (hT : P.underlying T = some (.int k)) (hU : P.underlying U = some (.int .i64)) (hx : Opd env x ((tI k).is m)) : Op1 P ⟨d, .convert T U x, ty, pos, aft, gd⟩ env res ((tI .i64).is (wrap64 m)) := by
  have := Op1.convK (P := P) (d := d) (ty := ty) (pos := pos) (aft := aft) (gd := gd) (res := res) hT hU hx
  rw [IntKind.wrap_i64] at this; exact this
theorem Op1.conv8K {k : IntKind} {x : Operand} {m : Int} {T U : TypeId} (hT : P.underlying T = some (.int k)) (hU : P.underlying U = some (.int .u8)) (hx : Opd env x ((tI k).is m)) : Op1 P ⟨d, .convert T U x, ty, pos, aft, gd⟩ env res ((tI .u8).is (wrap8 m)) := by
  have := Op1.convK (P := P) (d := d) (ty := ty) (pos := pos) (aft := aft) (gd := gd) (res := res) hT hU hx
  rw [wrap_u8] at this; exact this
theorem Op1.sliceArr {α : Type} {t : Ty α} {n : Nat} {u v : List α} {x y : Operand} {k : IntKind} {i : Int} {T E : TypeId} (h : Dec.slcLo u i = some v) (hT : P.underlying T = some (.array n E)) (hsz : ∀ w, (sizeOf E).run P w = .ok t.size w) (hx : Opd env x ((tA n t).ptr u)) (hy : Opd env y ((tI k).is i)) (hn : n ≤ lim) :
    Op1 P ⟨d, .slice T x (some y) none none, ty, pos, aft, gd⟩ env res ((tL t).is v) :=
  Op1.same fun a g hc => by
    obtain ⟨b, o, hv, cs, ⟨hl, hcs⟩, hhas⟩ := hx a g hc.henv
    have hw := (hy.atInt hc).1
    unfold Dec.slcLo at h
    split at h
    · rename_i hi
      cases h
      rw [hl] at hi
      have hb : (Instr.sliceBounds false n n (some (a.eval y)) none none).run P g.w = .ok (i.toNat, n, n) g.w := by
        rw [hw]
        simp [Instr.sliceBounds, Instr.sliceBound, asIntOf, hi.1, hi.2]
      refine ⟨.slice (some (if n = i.toNat then ⟨b, o, none⟩ else (⟨b, o, none⟩ : Addr).add (i.toNat * t.size))) (n - i.toNat) (n - i.toNat), ?_, ⟨_, ⟨some (if n = i.toNat then ⟨b, o, none⟩ else (⟨b, o, none⟩ : Addr).add (i.toNat * t.size)), n - i.toNat, by rw [List.length_drop, hl], by rw [List.length_drop, hl]; exact Nat.le_refl _, by rw [List.length_drop, hl]; omega, (fun h => by cases h), ?_⟩, rfl⟩⟩
      · simp [execOp, hv, Instr.sliceAt, run_underlying hT, Instr.sureAddr, hb, hsz]
      · have hrow : Row t g (some ⟨b, o, none⟩) u := hcs.row fun j v hj => hhas j v hj
        have := Row.part hrow i.toNat n (decide (n = i.toNat)) (by intro h; have := of_decide_eq_true h; omega)
        rw [List.take_of_length_le (by omega)] at this
        by_cases hq : n = i.toNat
        · have h0 : n - i.toNat = 0 := by omega
          simpa [hq, h0] using this
        · simpa [hq] using this
    · cases h
def tEb : Ty Bool where
  size := 1
  agg := false
  rep := fun _ cs x => match x with
    | false => cs = [.nilIface]
    | true => ∃ T v, cs = [.iface T v]
  len := fun {g cs x} h => by
    cases x with
    | false => rw [h]; rfl
    | true => obtain ⟨_, _, h⟩ := h; rw [h]; rfl
  one := fun {g cs x} h c hc => by
    cases x with
    | false => rw [h] at hc; rw [List.mem_singleton.1 hc]; rfl
    | true => obtain ⟨_, _, h⟩ := h; rw [h] at hc; rw [List.mem_singleton.1 hc]; rfl
  mono := fun _ h => h
  sing := fun _ => rfl
open Go.RowKit in
theorem atoiB_spec {P : Program} {f : FuncId} {b1 b2 : Nat} {T E U : TypeId}
    (hok : ∀ (s : ByteArray), s.size ≤ 9223372036854775806 → ∀ (v : Int), Lib.atoiAll s.data.toList = .ok v → ∀ w : World, Calls P f #[.string s] w fun e w' => e = .returned (.tuple #[.int .i64 v, .nilIface]) ∧ (w' = w ∨ ∃ t, w' = Lib.bytesWorld w U t))
    (hsy : ∀ (s : ByteArray), s.size ≤ 281474976710656 → Lib.atoiAll s.data.toList = Lib.NumEnd.syntax → ∀ (ev : Value) (w : World), w.cell? ⟨b1, 0, none⟩ = some ev → (ev = .nilIface ∨ ∃ te pe, ev = .iface te pe) →
      Calls P f #[.string s] w fun e w' => ∃ N, e = .returned (.tuple #[.int .i64 0, .iface T (.pointer (some ⟨N, 0, none⟩))]) ∧ w.heap.size ≤ N ∧ w'.heap[N]? = some (.cells #[.string ⟨#[65, 116, 111, 105]⟩, .string s, ev] E (0, 0)) ∧ Below w.heap.size w w')
    (hra : ∀ (s : ByteArray), s.size ≤ 281474976710656 → Lib.atoiAll s.data.toList = .range → ∀ (ev : Value) (w : World), w.cell? ⟨b2, 0, none⟩ = some ev → (ev = .nilIface ∨ ∃ te pe, ev = .iface te pe) →
      Calls P f #[.string s] w fun e w' => ∃ N, e = .returned (.tuple #[.int .i64 (Lib.atoiSat s.data.toList), .iface T (.pointer (some ⟨N, 0, none⟩))]) ∧ w.heap.size ≤ N ∧ w'.heap[N]? = some (.cells #[.string ⟨#[65, 116, 111, 105]⟩, .string s, ev] E (0, 0)) ∧ Below w.heap.size w w')
    (k1 k2 : Nat) (s : Str) (r : Int × Bool) (hm : atoiB s = some r) : FSpecR P f [tS.is s] [(k1, GlI b1), (k2, GlI b2)] (fun _ : Unit => Asn.tuple2 ((tI .i64).is r.1) (tEb.is r.2)) (fun _ => []) := by
  unfold atoiB at hm
  split at hm
  · rename_i hlen
    have hm := Option.some.inj hm
    refine specR_below fun g vs hvs hr => ?_
    match vs, hvs with
    | [v1], hvs =>
      obtain ⟨⟨_, ⟨rfl, hl1⟩, rfl⟩, _⟩ := hvs
      obtain ⟨e1, ⟨_, h1⟩, q1⟩ := hr _ List.mem_cons_self
      obtain ⟨e2, ⟨_, h2⟩, q2⟩ := hr _ (List.mem_cons_of_mem _ List.mem_cons_self)
      have hsz : (str s).size = s.length := by simp [str, ByteArray.size]
      cases ha : Lib.atoiAll s with
      | ok v =>
        rw [ha] at hm
        subst hm
        have hbd := Lib.atoiAll_bounds ha
        refine (hok (str s) (by rw [hsz]; omega) v (by simpa [str] using ha) g.w).mono ?_
        rintro e w' ⟨rfl, hw⟩
        refine ⟨_, rfl, ?_, fun g' => ⟨_, _, rfl, ⟨_, ⟨rfl, inR64.2 (by omega)⟩, rfl⟩, ⟨_, rfl, rfl⟩⟩⟩
        rcases hw with rfl | ⟨t, rfl⟩
        · exact Below.refl _ _
        · exact Lib.bytesWorld_below _ _ _
      | range =>
        rw [ha] at hm
        subst hm
        have hst : Lib.atoiSat (str s).data.toList = Lib.atoiSat s := by simp [str]
        refine (hra (str s) (by rw [hsz]; omega) (by simpa [str] using ha) e2 g.w h2 q2).mono ?_
        rintro e w' ⟨N, rfl, _, _, hb⟩
        rw [hst]
        refine ⟨_, rfl, hb, fun g' => ⟨_, _, rfl, ⟨_, ⟨rfl, inR64.2 ?_⟩, rfl⟩, ⟨_, ⟨_, _, rfl⟩, rfl⟩⟩⟩
        show -9223372036854775808 ≤ Lib.atoiSat s ∧ Lib.atoiSat s ≤ 9223372036854775807
        unfold Lib.atoiSat
        split <;> omega
      | _ =>
        rw [ha] at hm
        subst hm
        refine (hsy (str s) (by rw [hsz]; omega) (by simpa [str] using ha) e1 g.w h1 q1).mono ?_
        rintro e w' ⟨N, rfl, _, _, hb⟩
        exact ⟨_, rfl, hb, fun g' => ⟨_, _, rfl, ⟨_, ⟨rfl, inR64.2 (by show -9223372036854775808 ≤ (0 : Int) ∧ (0 : Int) ≤ 9223372036854775807; omega)⟩, rfl⟩, ⟨_, ⟨_, _, rfl⟩, rfl⟩⟩⟩
  · cases hm
def tOb (b : Nat) : Ty Unit where
  size := 1
  agg := false
  rep := fun _ cs _ => cs = [.pointer (some ⟨b, 0, none⟩)]
  len := fun {g cs x} h => by rw [h]; rfl
  one := fun {g cs x} h c hc => by rw [h] at hc; rw [List.mem_singleton.1 hc]; rfl
  mono := fun _ h => h
  sing := fun _ => rfl
def tPa : Ty Unit where
  size := 1
  agg := false
  rep := fun _ cs _ => ∃ p, cs = [.pointer p]
  len := fun {g cs x} ⟨p, h⟩ => by rw [h]; rfl
  one := fun {g cs x} ⟨p, h⟩ c hc => by rw [h] at hc; rw [List.mem_singleton.1 hc]; rfl
  mono := fun _ h => h
  sing := fun _ => rfl
theorem Opd.toOb {b : Nat} {x : Operand} (h : Opd env x (Bp b 0)) : Opd env x ((tOb b).is ()) := h.weak fun v g hv => ⟨[v], by rw [show v = _ from hv]; rfl, rfl⟩
theorem Ob.bp {b : Nat} {v : Value} {g : G} (h : ((tOb b).is ()).holds v g) : (Bp b 0).holds v g := by
  obtain ⟨cs, h1, h2⟩ := h
  have h1 : cs = _ := h1
  subst h1; exact h2
theorem Op1.ofOb {o : Oper} {b : Nat} {u : Unit} (h : Op1 P o env res ((tOb b).is u)) : Op1 P o env res (Bp b 0) := h.weak fun v g hv => Ob.bp hv
end
def ObP {α : Type} (c : Nat × Tok) (o : Option α) : Asn := Asn.eq (.pointer (match o with
  | none => none
  | some _ => some ⟨c.1, 0, none⟩))
def ObR {α β : Type} (t : Tok → Ty α) (T : TypeId) (te : Ty β) (E : TypeId) (f : α → List β) (c : Nat × Tok) (o : Option α) : Res := match o with
  | none => Many []
  | some u => Many [Bx (t c.2).size true T ((t c.2).is u) c.1, Own te E c.2 (f u).length]
section
variable {P : Program} {N : Nat} {g0 : G} {T0 : Nat → Prop} {env : Env} {res : Rs}
variable {α β : Type} {t : Tok → Ty α} {T : TypeId} {te : Ty β} {E : TypeId} {f : α → List β} {c : Nat × Tok} {u : α}
theorem ObP.some {o : Option α} (h : o = .some u) {v : Value} {g : G} (hv : (ObP c o).holds v g) : (Bp c.1 0).holds v g := by subst h; exact hv
theorem ObP.of {v : Value} {g : G} (hv : (Bp c.1 0).holds v g) : (ObP c (.some u)).holds v g := hv
theorem ObP.nil {v : Value} {g : G} (hv : (Asn.eq (.pointer none)).holds v g) : (ObP c (none : Option α)).holds v g := hv
theorem St.obOpen {o : Option α} {key : Nat} (k1 k2 : Nat) (ho : o = .some u) (hr : findR key res = .some (ObR t T te E f c o)) {a : Act} {g : G} (h : St N g0 T0 env res a g) :
    St N g0 T0 env ((k1, Bx (t c.2).size true T ((t c.2).is u) c.1) :: (k2, Own te E c.2 (f u).length) :: res.drop [key]) a g := by
  subst ho
  have h1 := St.open2 (l1 := []) (l2 := []) (k1 := k1) (k2 := k2) hr h
  refine h1.toRes (fun x hx => h1.hres x ?_) ?_ (fun b ⟨x, hx, hb⟩ => ⟨x, ?_, hb⟩)
  · rcases List.mem_cons.1 hx with rfl | hx
    · exact List.mem_cons_self
    rcases List.mem_cons.1 hx with rfl | hx
    · exact List.mem_cons_of_mem _ List.mem_cons_self
    · exact List.mem_cons_of_mem _ (List.mem_cons_of_mem _ (List.mem_cons_of_mem _ hx))
  · have := h1.dis
    have q := List.pairwise_cons.1 this
    have q2 := List.pairwise_cons.1 q.2
    have q3 := List.pairwise_cons.1 q2.2
    refine List.pairwise_cons.2 ⟨fun y hy => q.1 y ?_, List.pairwise_cons.2 ⟨fun y hy => q2.1 y ?_, q3.2⟩⟩
    · rcases List.mem_cons.1 hy with rfl | hy
      · exact List.mem_cons_self
      · exact List.mem_cons_of_mem _ (List.mem_cons_of_mem _ hy)
    · exact List.mem_cons_of_mem _ hy
  · rcases List.mem_cons.1 hx with rfl | hx
    · exact List.mem_cons_self
    rcases List.mem_cons.1 hx with rfl | hx
    · exact List.mem_cons_of_mem _ List.mem_cons_self
    · exact List.mem_cons_of_mem _ (List.mem_cons_of_mem _ (List.mem_cons_of_mem _ hx))
theorem St.obClose {k1 k2 : Nat} (key : Nat) (h1 : findR k1 res = .some (Bx (t c.2).size true T ((t c.2).is u) c.1)) (h2 : findR k2 res = .some (Own te E c.2 (f u).length)) (hk : k1 ≠ k2) {a : Act} {g : G} (h : St N g0 T0 env res a g) :
    St N g0 T0 env ((key, ObR t T te E f c (.some u)) :: res.drop [k1, k2]) a g := by
  have i1 := findR_mem h1
  have i2 := findR_mem h2
  have d12 := h.dis.two _ i1 _ i2 hk
  have hd : ∀ y ∈ res.drop [k1, k2], y ∈ res ∧ y.1 ≠ k1 ∧ y.1 ≠ k2 := fun y hy => by have := Rs.drop_mem hy; exact ⟨this.1, by simpa using this.2⟩
  refine h.toRes (fun x hx => ?_) (List.pairwise_cons.2 ⟨fun y hy b hb => ?_, h.dis.filter _⟩) (fun b ⟨x, hx, hb⟩ => ?_)
  · rcases List.mem_cons.1 hx with rfl | hx
    · refine ⟨fun R hR => ?_, by simpa using d12⟩
      rcases List.mem_cons.1 hR with rfl | hR
      · exact h.hres _ i1
      · rw [List.mem_singleton.1 hR]; exact h.hres _ i2
    · exact h.hres x (hd x hx).1
  · obtain ⟨hy1, hy2, hy3⟩ := hd y hy
    obtain ⟨R, hR, hRb⟩ := hb
    rcases List.mem_cons.1 hR with rfl | hR
    · exact h.dis.two _ i1 y hy1 (Ne.symm hy2) b hRb
    · rw [List.mem_singleton.1 hR] at hRb; exact h.dis.two _ i2 y hy1 (Ne.symm hy3) b hRb
  · rcases List.mem_cons.1 hx with rfl | hx
    · obtain ⟨R, hR, hRb⟩ := hb
      rcases List.mem_cons.1 hR with rfl | hR
      · exact ⟨_, i1, hRb⟩
      · rw [List.mem_singleton.1 hR] at hRb; exact ⟨_, i2, hRb⟩
    · exact ⟨x, (hd x hx).1, hb⟩
theorem St.obNil (key : Nat) {a : Act} {g : G} (h : St N g0 T0 env res a g) : St N g0 T0 env ((key, ObR t T te E f c none) :: res) a g :=
  h.free key (fun b hb => by obtain ⟨R, hR, _⟩ := hb; cases hR) ⟨fun R hR => (by cases hR), List.Pairwise.nil⟩
variable {cd : Code} {ks : List KF} {B : Exit → Act → World → Prop} {ops : Array Oper} {Q : Exit → Act → World → Prop} {l : List Oper}
theorem W.obOpen {o : Option α} {key : Nat} (slot k1 k2 : Nat) (ho : o = .some u) (hr : findR key res = .some (ObR t T te E f c o)) (hs : look slot env = .some (ObP c o))
    (h : W P N g0 T0 cd ks B ((slot, Bp c.1 0) :: env) ((k1, Bx (t c.2).size true T ((t c.2).is u) c.1) :: (k2, Own te E c.2 (f u).length) :: res.drop [key])) : W P N g0 T0 cd ks B env res :=
  fun a g hst => h a g ((hst.obOpen k1 k2 ho hr).slotA hs fun _ _ => ObP.some ho)
theorem WL.obOpen {o : Option α} {key : Nat} (slot k1 k2 : Nat) (ho : o = .some u) (hr : findR key res = .some (ObR t T te E f c o)) (hs : look slot env = .some (ObP c o))
    (h : WL P N g0 T0 ops Q l ((slot, Bp c.1 0) :: env) ((k1, Bx (t c.2).size true T ((t c.2).is u) c.1) :: (k2, Own te E c.2 (f u).length) :: res.drop [key])) : WL P N g0 T0 ops Q l env res :=
  fun a g hst => h a g ((hst.obOpen k1 k2 ho hr).slotA hs fun _ _ => ObP.some ho)
theorem W.obClose {k1 k2 : Nat} (t : Tok → Ty α) (te : Ty β) (f : α → List β) (c : Nat × Tok) (u : α) (slot key : Nat) (h1 : findR k1 res = .some (Bx (t c.2).size true T ((t c.2).is u) c.1)) (h2 : findR k2 res = .some (Own te E c.2 (f u).length)) (hk : k1 ≠ k2) (hs : look slot env = .some (Bp c.1 0))
    (h : W P N g0 T0 cd ks B ((slot, ObP c (.some u)) :: env) ((key, ObR t T te E f c (.some u)) :: res.drop [k1, k2])) : W P N g0 T0 cd ks B env res :=
  fun a g hst => h a g ((hst.obClose key h1 h2 hk).slotA hs fun _ _ => ObP.of)
theorem WN.obClose {k1 k2 : Nat} (t : Tok → Ty α) (te : Ty β) (f : α → List β) (c : Nat × Tok) (u : α) (slot key : Nat) (h1 : findR k1 res = .some (Bx (t c.2).size true T ((t c.2).is u) c.1)) (h2 : findR k2 res = .some (Own te E c.2 (f u).length)) (hk : k1 ≠ k2) (hs : look slot env = .some (Bp c.1 0))
    (h : WN P N g0 T0 ks B ((slot, ObP c (.some u)) :: env) ((key, ObR t T te E f c (.some u)) :: res.drop [k1, k2])) : WN P N g0 T0 ks B env res :=
  fun a g hst => h a g ((hst.obClose key h1 h2 hk).slotA hs fun _ _ => ObP.of)
theorem W.obNil (t : Tok → Ty α) (T : TypeId) (te : Ty β) (E : TypeId) (f : α → List β) (c : Nat × Tok) (slot key : Nat) (hs : look slot env = .some (Asn.eq (.pointer none)))
    (h : W P N g0 T0 cd ks B ((slot, ObP c (none : Option α)) :: env) ((key, ObR t T te E f c none) :: res)) : W P N g0 T0 cd ks B env res :=
  fun a g hst => h a g ((hst.obNil key).slotA hs fun _ _ => ObP.nil)
end
section
variable {P : Program} {env : Env} {res : Rs} {d : Option Tmp} {ty : TypeId} {pos : String} {aft : Array Edge} {gd : Option (Nat × Bool)}
theorem run_nilE {T : TypeId} {ms : _} (hT : P.underlying T = some (.interface ms)) (op : BinOp) (b : Bool) (v : Value) (hv : tEb.rep ⟨default, fun _ => 0⟩ [v] b) (w : World) (x : Operand) :
    (op = .eql → eqGuard op T x (.const .nilIface) v .nilIface = pure () ∧ (binOp op T v .nilIface).run P w = .ok (.bool (!b)) w) ∧ (op = .neq → eqGuard op T x (.const .nilIface) v .nilIface = pure () ∧ (binOp op T v .nilIface).run P w = .ok (.bool b) w) := by
  have h2 : (Op.equal T v .nilIface).run P w = .ok (!b) w := by
    have h : ∀ d, (Op.equalIn (d + 1) T v .nilIface).run P w = .ok (!b) w := by
      intro d
      cases b with
      | false => have hv : [v] = [.nilIface] := hv; cases hv; simp [Op.equalIn, run_underlying hT]
      | true => obtain ⟨U, y, hv⟩ := hv; cases hv; simp [Op.equalIn, run_underlying hT]
    exact h 9999
  have hg : ∀ op, eqGuard op T x (.const .nilIface) v .nilIface = pure () := by
    intro op
    cases b with
    | false => have hv : [v] = [.nilIface] := hv; cases hv; simp [eqGuard]
    | true => obtain ⟨U, y, hv⟩ := hv; cases hv; simp [eqGuard]
  have hb : (binOp .eql T v .nilIface).run P w = .ok (.bool (!b)) w ∧ (binOp .neq T v .nilIface).run P w = .ok (.bool b) w := by
    cases b with
    | false => have hv : [v] = [.nilIface] := hv; cases hv; constructor <;> (simp only [binOp]; simp [h2])
    | true => obtain ⟨U, y, hv⟩ := hv; cases hv; constructor <;> (simp only [binOp]; simp [h2])
  exact ⟨fun e => by subst e; exact ⟨hg _, hb.1⟩, fun e => by subst e; exact ⟨hg _, hb.2⟩⟩
theorem Op1.neNilE {T T' : TypeId} {x : Operand} {b : Bool} {ms : _} (hT : P.underlying T = some (.interface ms)) (hx : Opd env x (tEb.is b)) : Op1 P ⟨d, .binOp .neq T x (.const .nilIface) T', ty, pos, aft, gd⟩ env res (tB.is b) :=
  Op1.same fun a g hc => by
    obtain ⟨cs, h1, h2⟩ := hx a g hc.henv
    obtain ⟨v, rfl⟩ : ∃ v, cs = [v] := by have := tEb.len h1; match cs, this with | [v], _ => exact ⟨v, rfl⟩
    have hr := (run_nilE hT .neq b v h1 g.w x).2 rfl
    exact ⟨.bool b, exec_bin h2 rfl hr.1 hr.2, Asn.bool⟩
theorem run_nilP {T E : TypeId} (hT : P.underlying T = some (.pointer E)) (p : Option Addr) (w : World) (x y : Operand) :
    (eqGuard .eql T x y (.pointer p) (.pointer none) = pure () ∧ (binOp .eql T (.pointer p) (.pointer none)).run P w = .ok (.bool p.isNone) w) ∧ (eqGuard .neq T x y (.pointer p) (.pointer none) = pure () ∧ (binOp .neq T (.pointer p) (.pointer none)).run P w = .ok (.bool (!p.isNone)) w) := by
  have h2 : (Op.equal T (.pointer p) (.pointer none)).run P w = .ok p.isNone w := by
    have h : ∀ d, (Op.equalIn (d + 1) T (.pointer p) (.pointer none)).run P w = .ok p.isNone w := by
      intro d; cases p <;> simp [Op.equalIn, run_underlying hT]
    exact h 9999
  refine ⟨⟨by simp [eqGuard], ?_⟩, ⟨by simp [eqGuard], ?_⟩⟩
  · simp only [binOp]; simp [h2]
  · simp only [binOp]; simp [h2]
theorem Op1.eqNilP {T T' E : TypeId} {x : Operand} {p : Option Addr} (hT : P.underlying T = some (.pointer E)) (hx : Opd env x (Asn.eq (.pointer p))) : Op1 P ⟨d, .binOp .eql T x (.const (.pointer none)) T', ty, pos, aft, gd⟩ env res (tB.is p.isNone) :=
  Op1.same fun a g hc => by
    have hr := (run_nilP hT p g.w x (.const (.pointer none))).1
    exact ⟨.bool p.isNone, exec_bin (hx a g hc.henv) rfl hr.1 hr.2, Asn.bool⟩
theorem Op1.eqNilO {α : Type} {T T' E : TypeId} {x : Operand} {c : Nat × Tok} {o : Option α} (hT : P.underlying T = some (.pointer E)) (hx : Opd env x (ObP c o)) : Op1 P ⟨d, .binOp .eql T x (.const (.pointer none)) T', ty, pos, aft, gd⟩ env res (tB.is o.isNone) := by
  have := Op1.eqNilP (P := P) (d := d) (ty := ty) (pos := pos) (aft := aft) (gd := gd) (res := res) (T' := T') hT hx
  cases o <;> exact this
end
def Asn.tuple4 (A B C D : Asn) : Asn := ⟨fun v g => ∃ x y z u, v = .tuple #[x, y, z, u] ∧ A.holds x g ∧ B.holds y g ∧ C.holds z g ∧ D.holds u g, fun e ⟨x, y, z, u, h, a, b, c, d⟩ => ⟨x, y, z, u, h, A.mono e a, B.mono e b, C.mono e c, D.mono e d⟩⟩
section
variable {P : Program} {N : Nat} {g0 : G} {ks : List KF} {env : Env} {res rin : Rs} {fn : Func} {ρ : Type} {out : ρ → Rs} {d : Option Tmp} {ty : TypeId} {pos : String} {aft : Array Edge} {gd : Option (Nat × Bool)}
theorem Op1.extract40 {x : Operand} {A B C D : Asn} (h : Opd env x (Asn.tuple4 A B C D)) : Op1 P ⟨d, .extract x 0, ty, pos, aft, gd⟩ env res A :=
  Op1.same fun a g hc => by obtain ⟨w, y, z, u, hv, h1, h2, h3, h4⟩ := h a g hc.henv; exact ⟨w, by simp [execOp, hv, Instr.extract], h1⟩
theorem Op1.extract41 {x : Operand} {A B C D : Asn} (h : Opd env x (Asn.tuple4 A B C D)) : Op1 P ⟨d, .extract x 1, ty, pos, aft, gd⟩ env res B :=
  Op1.same fun a g hc => by obtain ⟨w, y, z, u, hv, h1, h2, h3, h4⟩ := h a g hc.henv; exact ⟨y, by simp [execOp, hv, Instr.extract], h2⟩
theorem Op1.extract42 {x : Operand} {A B C D : Asn} (h : Opd env x (Asn.tuple4 A B C D)) : Op1 P ⟨d, .extract x 2, ty, pos, aft, gd⟩ env res C :=
  Op1.same fun a g hc => by obtain ⟨w, y, z, u, hv, h1, h2, h3, h4⟩ := h a g hc.henv; exact ⟨z, by simp [execOp, hv, Instr.extract], h3⟩
theorem Op1.extract43 {x : Operand} {A B C D : Asn} (h : Opd env x (Asn.tuple4 A B C D)) : Op1 P ⟨d, .extract x 3, ty, pos, aft, gd⟩ env res D :=
  Op1.same fun a g hc => by obtain ⟨w, y, z, u, hv, h1, h2, h3, h4⟩ := h a g hc.henv; exact ⟨u, by simp [execOp, hv, Instr.extract], h4⟩
theorem W.ret4 {t u s r : Tmp} (x : ρ) {A : ρ → Asn} {C D E F : Asn} (hr : fn.results = #[.tmp t, .tmp u, .tmp s, .tmp r]) (hA : A x = Asn.tuple4 C D E F) (h : Opd env (.tmp t) C) (k : Opd env (.tmp u) D) (l : Opd env (.tmp s) E) (m : Opd env (.tmp r) F) (hs : RSub (out x) res) : W P N g0 rin.blks .ret ks (Bo P fn g0 rin A out) env res :=
  W.ret fun a g hst => by
    obtain h1 := h a g hst.cx.henv
    obtain k1 := k a g hst.cx.henv
    obtain l1 := l a g hst.cx.henv
    obtain m1 := m a g hst.cx.henv
    exact ⟨hst.dfr, .tuple #[a.tmps.getD t undef, a.tmps.getD u undef, a.tmps.getD s undef, a.tmps.getD r undef], by rw [results_eq, hr]; simp [readRes], x, _, g, rfl, rfl, hst.ext, by rw [hA]; exact ⟨_, _, _, _, rfl, h1, k1, l1, m1⟩, fun y hy => hst.hres y (hs.mem y hy), hs.dis hst.dis, fun b ⟨y, hy, hyb⟩ => (hst.own b ⟨y, hs.mem y hy, hyb⟩).symm⟩
end
end Go.Dec
