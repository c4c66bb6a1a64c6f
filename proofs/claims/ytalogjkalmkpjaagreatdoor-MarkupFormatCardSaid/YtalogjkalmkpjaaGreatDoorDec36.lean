/-
  Unsigned numbers of 64 bits; slices of arrays; slices made of zeros; errors that are nil or not; pointers to variables of one's own, in cells.
-/
import Derived.Test.YtalogjkalmkpjaaGreatDoorDec35
import Derived.Test.YtalogjkalmkpjaaGreatDoorDec29
import Derived.Laws.MakeOwn
import Derived.Below
set_option linter.unusedVariables false
set_option linter.unusedSimpArgs false
namespace Go.Dec
open Go
section
variable {P : Program} {env : Env} {res : Rs} {d : Option Tmp} {ty : TypeId} {pos : String} {aft : Array Edge} {gd : Option (Nat × Bool)}
section
variable {x y : Operand} {m n : Int} {T T' : TypeId}
end
def tEb : Ty Bool where
  size := 1
  agg := false
  rep := fun _ cs x => match x with
    | false => cs = [.nilIface]
    | true => ∃ T v, cs = [.iface T v]
  len := fun {g cs x} h => by
    cases x with
    | false => rw [h]; rfl
    | true => obtain ⟨_, _, h⟩ := h; rw [h]; rfl
  one := fun {g cs x} h c hc => by
    cases x with
    | false => rw [h] at hc; rw [List.mem_singleton.1 hc]; rfl
    | true => obtain ⟨_, _, h⟩ := h; rw [h] at hc; rw [List.mem_singleton.1 hc]; rfl
  mono := fun _ h => h
  sing := fun _ => rfl
open Go.RowKit in
theorem atoiB_spec {P : Program} {f : FuncId} {b1 b2 : Nat} {T E U : TypeId}
    (hok : ∀ (s : ByteArray), s.size ≤ 9223372036854775806 → ∀ (v : Int), Lib.atoiAll s.data.toList = .ok v → ∀ w : World, Calls P f #[.string s] w fun e w' => e = .returned (.tuple #[.int .i64 v, .nilIface]) ∧ (w' = w ∨ ∃ t, w' = Lib.bytesWorld w U t))
    (hsy : ∀ (s : ByteArray), s.size ≤ 281474976710656 → Lib.atoiAll s.data.toList = Lib.NumEnd.syntax → ∀ (ev : Value) (w : World), w.cell? ⟨b1, 0, none⟩ = some ev → (ev = .nilIface ∨ ∃ te pe, ev = .iface te pe) →
      Calls P f #[.string s] w fun e w' => ∃ N, e = .returned (.tuple #[.int .i64 0, .iface T (.pointer (some ⟨N, 0, none⟩))]) ∧ w.heap.size ≤ N ∧ w'.heap[N]? = some (.cells #[.string ⟨#[65, 116, 111, 105]⟩, .string s, ev] E (0, 0)) ∧ Below w.heap.size w w')
    (hra : ∀ (s : ByteArray), s.size ≤ 281474976710656 → Lib.atoiAll s.data.toList = .range → ∀ (ev : Value) (w : World), w.cell? ⟨b2, 0, none⟩ = some ev → (ev = .nilIface ∨ ∃ te pe, ev = .iface te pe) →
      Calls P f #[.string s] w fun e w' => ∃ N, e = .returned (.tuple #[.int .i64 (Lib.atoiSat s.data.toList), .iface T (.pointer (some ⟨N, 0, none⟩))]) ∧ w.heap.size ≤ N ∧ w'.heap[N]? = some (.cells #[.string ⟨#[65, 116, 111, 105]⟩, .string s, ev] E (0, 0)) ∧ Below w.heap.size w w')
    (k1 k2 : Nat) (s : Str) (r : Int × Bool) (hm : atoiB s = some r) : FSpecR P f [tS.is s] [(k1, GlI b1), (k2, GlI b2)] (fun _ : Unit => Asn.tuple2 ((tI .i64).is r.1) (tEb.is r.2)) (fun _ => []) := by
  unfold atoiB at hm
  split at hm
  · rename_i hlen
    have hm := Option.some.inj hm
    refine specR_below fun g vs hvs hr => ?_
    match vs, hvs with
    | [v1], hvs =>
      obtain ⟨⟨_, ⟨rfl, hl1⟩, rfl⟩, _⟩ := hvs
      obtain ⟨e1, ⟨_, h1⟩, q1⟩ := hr _ List.mem_cons_self
      obtain ⟨e2, ⟨_, h2⟩, q2⟩ := hr _ (List.mem_cons_of_mem _ List.mem_cons_self)
      have hsz : (str s).size = s.length := by simp [str, ByteArray.size]
      cases ha : Lib.atoiAll s with
      | ok v =>
        rw [ha] at hm
        subst hm
        have hbd := Lib.atoiAll_bounds ha
        refine (hok (str s) (by rw [hsz]; omega) v (by simpa [str] using ha) g.w).mono ?_
        rintro e w' ⟨rfl, hw⟩
        refine ⟨_, rfl, ?_, fun g' => ⟨_, _, rfl, ⟨_, ⟨rfl, inR64.2 (by omega)⟩, rfl⟩, ⟨_, rfl, rfl⟩⟩⟩
        rcases hw with rfl | ⟨t, rfl⟩
        · exact Below.refl _ _
        · exact Lib.bytesWorld_below _ _ _
      | range =>
        rw [ha] at hm
        subst hm
        have hst : Lib.atoiSat (str s).data.toList = Lib.atoiSat s := by simp [str]
        refine (hra (str s) (by rw [hsz]; omega) (by simpa [str] using ha) e2 g.w h2 q2).mono ?_
        rintro e w' ⟨N, rfl, _, _, hb⟩
        rw [hst]
        refine ⟨_, rfl, hb, fun g' => ⟨_, _, rfl, ⟨_, ⟨rfl, inR64.2 ?_⟩, rfl⟩, ⟨_, ⟨_, _, rfl⟩, rfl⟩⟩⟩
        show -9223372036854775808 ≤ Lib.atoiSat s ∧ Lib.atoiSat s ≤ 9223372036854775807
        unfold Lib.atoiSat
        split <;> omega
      | _ =>
        rw [ha] at hm
        subst hm
        refine (hsy (str s) (by rw [hsz]; omega) (by simpa [str] using ha) e1 g.w h1 q1).mono ?_
        rintro e w' ⟨N, rfl, _, _, hb⟩
        exact ⟨_, rfl, hb, fun g' => ⟨_, _, rfl, ⟨_, ⟨rfl, inR64.2 (by show -9223372036854775808 ≤ (0 : Int) ∧ (0 : Int) ≤ 9223372036854775807; omega)⟩, rfl⟩, ⟨_, ⟨_, _, rfl⟩, rfl⟩⟩⟩
  · cases hm
end
def ObP {α : Type} (c : Nat × Tok) (o : Option α) : Asn := Asn.eq (.pointer (match o with
  | none => none
  | some _ => some ⟨c.1, 0, none⟩))
section
variable {P : Program} {N : Nat} {g0 : G} {T0 : Nat → Prop} {env : Env} {res : Rs}
variable {α β : Type} {t : Tok → Ty α} {T : TypeId} {te : Ty β} {E : TypeId} {f : α → List β} {c : Nat × Tok} {u : α}
theorem ObP.some {o : Option α} (h : o = .some u) {v : Value} {g : G} (hv : (ObP c o).holds v g) : (Bp c.1 0).holds v g := by subst h; exact hv
theorem ObP.of {v : Value} {g : G} (hv : (Bp c.1 0).holds v g) : (ObP c (.some u)).holds v g := hv
theorem ObP.nil {v : Value} {g : G} (hv : (Asn.eq (.pointer none)).holds v g) : (ObP c (none : Option α)).holds v g := hv
variable {cd : Code} {ks : List KF} {B : Exit → Act → World → Prop} {ops : Array Oper} {Q : Exit → Act → World → Prop} {l : List Oper}
end
section
variable {P : Program} {env : Env} {res : Rs} {d : Option Tmp} {ty : TypeId} {pos : String} {aft : Array Edge} {gd : Option (Nat × Bool)}
theorem run_nilE {T : TypeId} {ms : _} (hT : P.underlying T = some (.interface ms)) (op : BinOp) (b : Bool) (v : Value) (hv : tEb.rep ⟨default, fun _ => 0⟩ [v] b) (w : World) (x : Operand) :
    (op = .eql → eqGuard op T x (.const .nilIface) v .nilIface = pure () ∧ (binOp op T v .nilIface).run P w = .ok (.bool (!b)) w) ∧ (op = .neq → eqGuard op T x (.const .nilIface) v .nilIface = pure () ∧ (binOp op T v .nilIface).run P w = .ok (.bool b) w) := by
  have h2 : (Op.equal T v .nilIface).run P w = .ok (!b) w := by
    have h : ∀ d, (Op.equalIn (d + 1) T v .nilIface).run P w = .ok (!b) w := by
      intro d
      cases b with
      | false => have hv : [v] = [.nilIface] := hv; cases hv; simp [Op.equalIn, run_underlying hT]
      | true => obtain ⟨U, y, hv⟩ := hv; cases hv; simp [Op.equalIn, run_underlying hT]
    exact h 9999
  have hg : ∀ op, eqGuard op T x (.const .nilIface) v .nilIface = pure () := by
    intro op
    cases b with
    | false => have hv : [v] = [.nilIface] := hv; cases hv; simp [eqGuard]
    | true => obtain ⟨U, y, hv⟩ := hv; cases hv; simp [eqGuard]
  have hb : (binOp .eql T v .nilIface).run P w = .ok (.bool (!b)) w ∧ (binOp .neq T v .nilIface).run P w = .ok (.bool b) w := by
    cases b with
    | false => have hv : [v] = [.nilIface] := hv; cases hv; constructor <;> (simp only [binOp]; simp [h2])
    | true => obtain ⟨U, y, hv⟩ := hv; cases hv; constructor <;> (simp only [binOp]; simp [h2])
  exact ⟨fun e => by subst e; exact ⟨hg _, hb.1⟩, fun e => by subst e; exact ⟨hg _, hb.2⟩⟩
theorem Op1.neNilE {T T' : TypeId} {x : Operand} {b : Bool} {ms : _} (hT : P.underlying T = some (.interface ms)) (hx : Opd env x (tEb.is b)) : Op1 P ⟨d, .binOp .neq T x (.const .nilIface) T', ty, pos, aft, gd⟩ env res (tB.is b) :=
  Op1.same fun a g hc => by
    obtain ⟨cs, h1, h2⟩ := hx a g hc.henv
    obtain ⟨v, rfl⟩ : ∃ v, cs = [v] := by have := tEb.len h1; match cs, this with | [v], _ => exact ⟨v, rfl⟩
    have hr := (run_nilE hT .neq b v h1 g.w x).2 rfl
    exact ⟨.bool b, exec_bin h2 rfl hr.1 hr.2, Asn.bool⟩
end
section
variable {P : Program} {N : Nat} {g0 : G} {ks : List KF} {env : Env} {res rin : Rs} {fn : Func} {ρ : Type} {out : ρ → Rs} {d : Option Tmp} {ty : TypeId} {pos : String} {aft : Array Edge} {gd : Option (Nat × Bool)}
end
end Go.Dec
