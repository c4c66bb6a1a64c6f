/-
  The last step of a row that lists what package variables hold.
-/
import Derived.Test.YtclepigknhoonaaReadR
import Derived.LaidMore
import Derived.OpenShut
import Derived.Stop.Joined
set_option linter.unusedVariables false
set_option linter.unusedSimpArgs false
namespace Go.Dec
open Go Go.RowKit Go.WideShapes Go.ChangeShapes

section
variable {P : Program} {H : Type}

/-- The same, of a row that lists what package variables hold. -/
theorem lifted_of_law_and {C : Checked} {os : Os} {f : FuncId} {fn : Func} {s : ChangeSpec} {conds : List PathCond} {apart fresh handsOn again : Bool} {tb : TypeId} {enc : TypeId × Value → H} {X : World → Array Value → Prop} (hX : ∀ (w w' : World) (args : Array Value), w.heap = w'.heap → X w args → X w' args)
    (own : ownKnob C.prog.godebug = none) (started : os.Started) (noInit : C.prog.inits.idxOf? f = none) (hfn : C.prog.funcs[f]? = some fn)
    (witness : ∃ (w : World) (tape : Tape) (i : Input), w.os = os ∧ (w.forCall tape i).Shaped C.prog ∧ i.vars = [] ∧ Input.okWide C.prog (w.forCall tape i) .any w.heap.size f i ∧
      ((s.pre enc C.prog fn conds apart (w.forCall tape i).memory i.args ∧ X (w.forCall tape i).memory i.args) ∧ sizedMet enc C.prog fn (OpenSpec.ofChange s) apart (w.forCall tape i).memory i.args) ∧ Assume.holds {} C.prog (lone (Frame.enter C.prog f i.args .normal) [] (w.forCall tape i)))
    (hl : laidOutB C.prog = true) (hr : fn.params.toList.all (fun t => C.prog.readableRec t && decide (t < C.prog.types.size)) = true)
    (hres : fn.resultTypes = #[tb]) (htb : C.prog.underlying tb = some .bool) (hvars : s.vars = [])
    (hs : ∀ ds : List (DataW H), ds.length = fn.params.toList.length → (s.fn H ds).results = [.lit (.bool true)] ∧ (s.fn H ds).args = ds ∧ (s.fn H ds).vars = [])
    (law : ∀ W base vs, ArgsOk C.prog W base fn.params.toList vs → ∃ As, All2 As vs (G.top W) ∧ FSpec C.prog f As (tB.is true)) :
    ReturnsInHanded {} C os f .any (fun w args => (s.pre enc C.prog fn conds apart w args ∧ X w args) ∧ sizedMet enc C.prog fn (OpenSpec.ofChange s) apart w args) (s.post enc C.prog fn apart fresh handsOn again) := by
  refine returnsInHanded_of_change_and hX own started noInit hfn witness ?_
  intro W base args ds gs before hval hW hcnd hsz _ _
  have hW' := hW
  obtain ⟨p, q, hA, hV, rfl, hfz, hnd⟩ := hW
  rw [hvars] at hV
  have hg : gs = [] ∧ q = [] := by
    cases gs with
    | nil => exact ⟨rfl, hV⟩
    | cons _ _ => exact hV.elim
  obtain ⟨rfl, rfl⟩ := hg
  have hlt : ∀ x ∈ p, x.block < W.heap.size := fun x hx => hW'.lt x (by simpa using hx)
  have hr' : ∀ t ∈ fn.params.toList, C.prog.readableRec t = true ∧ t < C.prog.types.size := fun t ht => by
    have := List.all_eq_true.1 hr t ht
    simpa using this
  have hvt : s.plain.varTypes C.prog = [] := by
    have : s.plain.vars = [] := hvars
    simp [DataSpec.varTypes, this]
  have hsz' : ∀ n ∈ DataW.weightsEach C.prog fn.params.toList ds, n ≤ reachBytes := fun n hn => by
    have := List.all_eq_true.1 hsz n (by rw [hvt]; simpa using hn)
    simpa using this
  obtain ⟨As, hvs, hspec⟩ := law W base args.toList ⟨H, enc, ds, p, hA, hsz', fun j t v hj hv => hval j t v (by simpa using hj) (by simpa using hv)⟩
  have := hspec (G.top W) args.toList hvs
  refine (show Calls C.prog f args W _ from by simpa [G.top] using this).mono ?_
  rintro e W' ⟨v, g', rfl, rfl, hext, cs, hcs, hv⟩
  have hcs' : cs = [.bool true] := hcs
  subst hcs'
  have hv' : v = .bool true := hv
  subst hv'
  have hb : Below W.heap.size W g'.w := Ext.below hext
  have hlen : (ds ++ []).length = fn.params.toList.length := by rw [List.append_nil]; exact trodAll_len hA
  obtain ⟨hs1, hs2, hs3⟩ := hs (ds ++ []) hlen
  refine ⟨_, rfl, post_of_below (pa := p) (pv := []) hW' ?_ ?_ ?_ rfl hb (ok_one hres rfl (okWide_bool_mk htb true))⟩
  · intro b sp hd
    rw [hs1, hres]
    exact trodAll_mk1 (shut_bool htb true)
  · intro sp hsp
    rw [hs2, List.append_nil]
    exact trodAll_stays hl hb hr' hA hlt (fun x hx => hsp x (by simpa using hx))
  · intro sp _
    rw [hs3, hvars]
    rfl
end
end Go.Dec
