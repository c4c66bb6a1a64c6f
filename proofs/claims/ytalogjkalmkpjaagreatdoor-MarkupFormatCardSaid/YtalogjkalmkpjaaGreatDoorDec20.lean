/-
  Maps that the call has made itself, as lists of pairs in the order of their first writing.
-/
import Derived.Test.YtalogjkalmkpjaaGreatDoorDec18
import Derived.MapKept
set_option linter.unusedVariables false
set_option linter.unusedSimpArgs false
namespace Go.Dec
open Go
def Ents {α β : Type} (tk : Ty α) (tv : Ty β) (g : G) : List MapEntry → List (α × β) → Prop
  | [], [] => True
  | e :: es, p :: m => (tk.is p.1).holds e.key g ∧ (tv.is p.2).holds e.val g ∧ Ents tk tv g es m
  | _, _ => False
theorem Ents.mono {α β : Type} {tk : Ty α} {tv : Ty β} {T : Nat → Prop} {g g' : G} (e : Ext T g g') : ∀ {es : List MapEntry} {m : List (α × β)}, Ents tk tv g es m → Ents tk tv g' es m
  | [], [], _ => trivial
  | x :: es, p :: m, ⟨h1, h2, h3⟩ => ⟨(tk.is p.1).mono e h1, (tv.is p.2).mono e h2, Ents.mono e h3⟩
  | [], _ :: _, h => h.elim
  | _ :: _, [], h => h.elim
theorem Ents.len {α β : Type} {tk : Ty α} {tv : Ty β} {g : G} : ∀ {es : List MapEntry} {m : List (α × β)}, Ents tk tv g es m → es.length = m.length
  | [], [], _ => rfl
  | x :: es, p :: m, ⟨_, _, h3⟩ => by simp [Ents.len h3]
  | [], _ :: _, h => h.elim
  | _ :: _, [], h => h.elim
def findAt {α : Type} [DecidableEq α] (x : α) : List α → List MapEntry → Nat → Option (Nat × Value)
  | y :: ys, e :: es, i => if x = y then some (i, e.val) else findAt x ys es (i + 1)
  | _, _, _ => none
structure KeyT (P : Program) {α : Type} [DecidableEq α] (T : TypeId) (t : Ty α) : Prop where
  chk : ∀ {g : G} {cs : List Value} {x : α}, t.rep g cs x → ∀ e w, (Instr.checkKey e 10000 T (mkVal t.agg cs)).run P w = .ok () w
  find : ∀ {β : Type} {tv : Ty β} {g : G} {cs : List Value} {x : α} {es : List MapEntry} {m : List (α × β)}, t.rep g cs x → Ents t tv g es m → ∀ w, (Instr.findKey T (mkVal t.agg cs) es).run P w = .ok (findAt x (m.map Prod.fst) es 0) w
section
variable {P : Program}
theorem findAsking_run {α β : Type} [DecidableEq α] {T : TypeId} {t : Ty α} {tv : Ty β} {D : Nat} (h : EqT P T t D) (hD : D ≤ 10000) {g : G} {cs : List Value} {x : α} (hx : t.rep g cs x) :
    ∀ (es : List MapEntry) (m : List (α × β)), Ents t tv g es m → ∀ i w, (Instr.findAsking T (mkVal t.agg cs) es i).run P w = .ok (findAt x (m.map Prod.fst) es i) w
  | [], [], _, i, w => by simp [Instr.findAsking, findAt]
  | e :: es, p :: m, ⟨⟨ds, h1, h2⟩, _, h3⟩, i, w => by
    have heq : (Op.equal T (mkVal t.agg cs) e.key).run P w = .ok (decide (x = p.1)) w := by rw [h2]; exact h.eq hx h1 10000 hD w
    simp only [Instr.findAsking, Sem.run_bind, heq, Result.andThen_ok, List.map_cons, findAt]
    by_cases hp : x = p.1
    · simp [hp]
    · rw [if_neg hp]
      simp only [hp, decide_false, Bool.false_eq_true, if_false]
      exact findAsking_run h hD hx es m h3 (i + 1) w
  | [], _ :: _, h, _, _ => h.elim
  | _ :: _, [], h, _, _ => h.elim
def CkL (P : Program) {α : Type} (s : Ty α) (n : Nat) : List Field → Prop
  | [] => True
  | f :: fs => (∃ (β : Type) (t : Ty β) (p : α → β), TyAt P f.type t ∧ Fld s f.offset t p ∧ ∀ {g : G} {cs : List Value} {x : β}, t.rep g cs x → ∀ e w, (Instr.checkKey e n f.type (mkVal t.agg cs)).run P w = .ok () w) ∧ CkL P s n fs
theorem ck_int {T : TypeId} {k : IntKind} (hT : P.underlying T = some (.int k)) (n : Nat) {g : G} {cs : List Value} {x : Int} (h : (tI k).rep g cs x) (e : Bool) (w : World) : (Instr.checkKey e (n + 1) T (mkVal (tI k).agg cs)).run P w = .ok () w := by
  rw [h.1]
  show (Instr.checkKey e (n + 1) T (.int k x)).run P w = _
  simp [Instr.checkKey, run_underlying hT]
theorem ck_string {T : TypeId} (hT : P.underlying T = some .string) (n : Nat) {g : G} {cs : List Value} {x : Str} (h : tS.rep g cs x) (e : Bool) (w : World) : (Instr.checkKey e (n + 1) T (mkVal tS.agg cs)).run P w = .ok () w := by
  rw [h.1]
  show (Instr.checkKey e (n + 1) T (.string (Dec.str x))).run P w = _
  simp [Instr.checkKey, run_underlying hT]
theorem ck_struct {α : Type} {s : Ty α} {T : TypeId} {fs : Array Field} {n : Nat} (hs : s.agg = true) (hT : P.underlying T = some (.struct fs)) (h : CkL P s n fs.toList) {g : G} {cs : List Value} {x : α} (hx : s.rep g cs x) (e : Bool) (w : World) :
    (Instr.checkKey e (n + 1) T (mkVal s.agg cs)).run P w = .ok () w := by
  rw [hs]
  show (Instr.checkKey e (n + 1) T (.agg cs.toArray)).run P w = _
  rw [Instr.checkKey]
  simp only [Sem.run_bind, run_underlying hT, Result.andThen_ok]
  rw [← Array.forIn_toList]
  generalize fs.toList = L at h
  induction L with
  | nil => simp
  | cons f L ih =>
    obtain ⟨⟨β, t, p, h1, h2, h3⟩, h4⟩ := h
    obtain ⟨ds, hd, hp⟩ := part_fld h1 h2 hx
    have hc := h3 hd e w
    simp only [List.forIn_cons, Sem.run_bind, Result.andThen_ok]
    by_cases hn : f.name = "_"
    · simp only [hn, ne_eq, not_true_eq_false, if_false, Sem.run_pure, Result.andThen_ok]
      exact ih h4
    · simp only [hn, ne_eq, not_false_eq_true, if_true, Sem.run_bind, hp, hc, Result.andThen_ok, Sem.run_pure]
      exact ih h4
theorem KeyT.struct {α : Type} [DecidableEq α] {s : Ty α} {T : TypeId} {fs : Array Field} {D : Nat} (h : EqT P T s D) (hD : D ≤ 10000) (hs : s.agg = true) (hT : P.underlying T = some (.struct fs)) (hc : CkL P s 9999 fs.toList) : KeyT P T s := by
  refine ⟨fun hx e w => ck_struct hs hT hc hx e w, fun {β tv g cs x es m} hx hE w => ?_⟩
  have : (Instr.findKey T (mkVal s.agg cs) es).run P w = (Instr.findAsking T (mkVal s.agg cs) es).run P w := by
    cases es with
    | nil => simp [Instr.findKey, run_underlying hT, Instr.findNow, Instr.findAsking]
    | cons e es => simp [Instr.findKey, run_underlying hT, Instr.findNow, Instr.sameNow]
  rw [this]
  exact findAsking_run h hD hx es m hE 0 w
theorem findNow_run {α β : Type} [DecidableEq α] {t : Ty α} {tv : Ty β} {k : TypeDesc} {g : G} {cs : List Value} {x : α} (hx : t.rep g cs x) (hs : ∀ ds y, t.rep g ds y → Instr.sameNow k (mkVal t.agg cs) (mkVal t.agg ds) = some (decide (x = y))) :
    ∀ (es : List MapEntry) (m : List (α × β)), Ents t tv g es m → ∀ i, Instr.findNow k (mkVal t.agg cs) es i = some (findAt x (m.map Prod.fst) es i)
  | [], [], _, i => by simp [Instr.findNow, findAt]
  | e :: es, p :: m, ⟨⟨ds, h1, h2⟩, _, h3⟩, i => by
    have := hs ds p.1 h1
    rw [← h2] at this
    simp only [Instr.findNow, this, List.map_cons, findAt]
    by_cases hp : x = p.1
    · simp [hp]
    · rw [if_neg hp]
      simp only [hp, decide_false]
      exact findNow_run hx hs es m h3 (i + 1)
  | [], _ :: _, h, _ => h.elim
  | _ :: _, [], h, _ => h.elim
theorem KeyT.int {T : TypeId} {k : IntKind} (hT : P.underlying T = some (.int k)) : KeyT P T (tI k) := by
  refine ⟨fun hx e w => ck_int hT 9999 hx e w, fun {β tv g cs x es m} hx hE w => ?_⟩
  have hn := findNow_run (k := .int k) hx (fun ds y hy => by
    rw [hx.1, hy.1]
    show Instr.sameNow (.int k) (.int k x) (.int k y) = _
    simp only [Instr.sameNow, if_true]
    congr 1) es m hE 0
  simp [Instr.findKey, run_underlying hT, hn]
theorem KeyT.string {T : TypeId} (hT : P.underlying T = some .string) : KeyT P T tS := by
  refine ⟨fun hx e w => ck_string hT 9999 hx e w, fun {β tv g cs x es m} hx hE w => ?_⟩
  have hn := findNow_run (k := .string) hx (fun ds y hy => by
    rw [hx.1, hy.1]
    show Instr.sameNow .string (.string (Dec.str x)) (.string (Dec.str y)) = _
    simp only [Instr.sameNow]
    congr 1
    by_cases h : x = y
    · subst h; simp [MapKept.bytes_beq]
    · have hne : Dec.str x ≠ Dec.str y := fun e => h (by
        have := congrArg (fun b : ByteArray => b.data.toList) e
        simpa [Dec.str] using this)
      have hb : ¬ (Dec.str x == Dec.str y) = true := fun e => hne (by simpa [MapKept.bytes_beq] using e)
      simp [h, hb]) es m hE 0
  simp [Instr.findKey, run_underlying hT, hn]
theorem Ents.append {α β : Type} {tk : Ty α} {tv : Ty β} {g : G} {e : MapEntry} {p : α × β} (h1 : (tk.is p.1).holds e.key g) (h2 : (tv.is p.2).holds e.val g) : ∀ {es : List MapEntry} {m : List (α × β)}, Ents tk tv g es m → Ents tk tv g (es ++ [e]) (m ++ [p])
  | [], [], _ => ⟨h1, h2, trivial⟩
  | x :: es, q :: m, ⟨k1, k2, k3⟩ => ⟨k1, k2, Ents.append h1 h2 k3⟩
  | [], _ :: _, h => h.elim
  | _ :: _, [], h => h.elim
end
section
variable {P : Program} {N : Nat} {g0 : G} {T0 : Nat → Prop} {env : Env} {res : Rs} {d : Option Tmp} {ty : TypeId} {pos : String} {aft : Array Edge} {gd : Option (Nat × Bool)} {α β : Type} {tk : Ty α} {tv : Ty β}
end
section
variable {P : Program} {N : Nat} {g0 : G} {T0 : Nat → Prop} {env : Env} {res : Rs} {d : Option Tmp} {ty : TypeId} {pos : String} {aft : Array Edge} {gd : Option (Nat × Bool)} {α β : Type} [DecidableEq α] {tk : Ty α} {tv : Ty β}
end
section
variable {P : Program} {env : Env} {res : Rs} {pos : String} {aft : Array Edge} {gd : Option (Nat × Bool)} {ty : TypeId} {α β : Type} [DecidableEq α] {tk : Ty α} {tv : Ty β}
end
end Go.Dec
