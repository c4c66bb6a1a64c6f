/-
  Function values that are handed a pointer to a variable of the caller's: read as the model of what they do to it.
-/
import Derived.Test.YtclepigknhoonaaDec21
set_option linter.unusedVariables false
set_option linter.unusedSimpArgs false
namespace Go.Dec
open Go

def tFnR (P : Program) {R C : Type} (tR : Ty R) (T : TypeId) (A : C → Asn) : Ty (R → Option (C × R)) where
  size := 1
  agg := false
  rep := fun _ cs f => ∃ v, cs = [v] ∧ ((∃ fid, v = .func (.func fid) #[] #[] ∧ (∀ as w, (callFunc fid as).run P w = .ok (.enter fid as) w) ∧
    ∀ b x y x', f x = some (y, x') → FSpecR P fid [Bp b 0] [(0, Bx tR.size tR.agg T (tR.is x) b)] (fun _ : Unit => A y) (fun _ => [(0, Bx tR.size tR.agg T (tR.is x') b)])) ∨ (v = .nilFunc ∧ ∀ x, f x = none))
  len := fun ⟨v, h, _⟩ => by rw [h]; rfl
  one := fun ⟨v, h, hv⟩ c hc => by
    rw [h] at hc
    rw [List.mem_singleton.1 hc]
    rcases hv with ⟨f, h1, _⟩ | ⟨h1, _⟩
    · rw [h1]; rfl
    · rw [h1]; rfl
  mono := fun _ h => h
  sing := fun _ => rfl

section
variable {P : Program} {env : Env} {res : Rs} {d : Option Tmp} {ty : TypeId} {pos : String} {aft : Array Edge} {gd : Option (Nat × Bool)}
variable {R C : Type} {tR : Ty R} {T : TypeId} {A : C → Asn}

theorem Opd.fnR {fid : FuncId} {f : R → Option (C × R)} (hcall : ∀ as w, (callFunc fid as).run P w = .ok (.enter fid as) w)
    (hs : ∀ b x y x', f x = some (y, x') → FSpecR P fid [Bp b 0] [(0, Bx tR.size tR.agg T (tR.is x) b)] (fun _ : Unit => A y) (fun _ => [(0, Bx tR.size tR.agg T (tR.is x') b)])) :
    Opd env (.func fid) ((tFnR P tR T A).is f) :=
  fun a g he => ⟨_, ⟨_, rfl, .inl ⟨fid, rfl, hcall, hs⟩⟩, rfl⟩

theorem OpR.callFnR {x r : Operand} {ats : Array TypeId} {f : R → Option (C × R)} {b : Nat} {x0 x1 : R} {y : C} (key : Nat) (hm : f x0 = some (y, x1)) (hx : Opd env x ((tFnR P tR T A).is f))
    (hr : res.pick [key] = [(key, Bx tR.size tR.agg T (tR.is x0) b)]) (h : Opd env r (Bp b 0)) :
    OpR P ⟨d, .call ⟨.value x, [r].toArray, ats⟩, ty, pos, aft, gd⟩ env res [key] (fun _ : Unit => A y) (fun _ => [(key, Bx tR.size tR.agg T (tR.is x1) b)]) :=
  OpR.of_calls fun a g hc hd => by
    obtain ⟨cs, ⟨v, rfl, hv⟩, he⟩ := hx a g hc.henv
    have he' : a.eval x = v := he
    rcases hv with ⟨fid, h1, hcall, hdo⟩ | ⟨_, hn⟩
    · refine ⟨fid, _, exec_callV (caps := []) hcall a g.w (by rw [he', h1]), ?_⟩
      have hf := (hdo b x0 y x1 hm).keys (rin' := [(key, Bx tR.size tR.agg T (tR.is x0) b)]) (out' := fun _ => [(key, Bx tR.size tR.agg T (tR.is x1) b)]) rfl (fun _ => rfl)
      rw [← hr] at hf
      exact hf g _ (by rw [List.append_nil]; exact Opds.all hc.henv (show Opds env [r] [Bp b 0] from ⟨h, trivial⟩)) (fun y hy => hc.hres y (List.mem_filter.1 hy).1) (hd.filter _)
    · rw [hn] at hm; cases hm
end
end Go.Dec
