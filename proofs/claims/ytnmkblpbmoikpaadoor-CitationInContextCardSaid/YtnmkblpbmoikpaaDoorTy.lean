/-
  How the types of the program are read.
-/
import Derived.Test.YtnmkblpbmoikpaaDoorDec23
import Derived.Test.YtnmkblpbmoikpaaDoorDec19
import Derived.Test.YtnmkblpbmoikpaaDoorDec24
import Derived.Test.YtnmkblpbmoikpaaDoorSh
import Derived.Test.YtnmkblpbmoikpaaDoorDec25
import Derived.Test.YtnmkblpbmoikpaaDoorDec26
import Derived.Test.YtnmkblpbmoikpaaDoorDec27
import Derived.Test.YtnmkblpbmoikpaaDoorMdl
import Derived.Test.YtnmkblpbmoikpaaDoorProg
import Derived.KernelRfl
set_option maxRecDepth 100000
namespace Go.Proofs.YtnmkblpbmoikpaaDoor
open Go Go.Dec
theorem Tryd.mixed : Tryd.prog.follows .mixedOrders = true := by kernel_rfl
def tapi_Step : Ty api_Step := tMap (tP (tI .i64) (tOne tS)) (fun x : api_Step => (x.Kind, x.Label))
theorem fapi_Step_0 : Fld tapi_Step 0 (tI .i64) (fun x => x.Kind) := (Fld.map (m := (fun x : api_Step => (x.Kind, x.Label))) (Fld.here (tI .i64) (tOne tS))).cast rfl rfl
theorem sapi_Step_0 : FldSet tapi_Step 0 (tI .i64) (fun x y => { x with Kind := y }) := (FldSet.map (m := (fun x : api_Step => (x.Kind, x.Label))) (f' := fun x y => { x with Kind := y }) (FldSet.here (tI .i64) (tOne tS)) (fun _ _ => rfl)).cast rfl rfl
theorem fapi_Step_1 : Fld tapi_Step 1 tS (fun x => x.Label) := (Fld.map (m := (fun x : api_Step => (x.Kind, x.Label))) (Fld.next (s := (tI .i64)) (Fld.one tS))).cast rfl rfl
theorem sapi_Step_1 : FldSet tapi_Step 1 tS (fun x y => { x with Label := y }) := (FldSet.map (m := (fun x : api_Step => (x.Kind, x.Label))) (f' := fun x y => { x with Label := y }) (FldSet.next (s := (tI .i64)) (FldSet.one tS)) (fun _ _ => rfl)).cast rfl rfl
def zapi_Step_f (fd : Field) : Nat := if fd.type = 3 then 1 else if fd.type = 9 then 1 else 0
theorem zapi_Step_sz : ∀ fs, Tryd.prog.underlying 50 = some (.struct fs) → ∀ fd, fd ∈ fs → ∀ w, (sizeOf fd.type).run Tryd.prog w = .ok (zapi_Step_f fd) w := by
  intro fs h
  rw [Tryd.underlying50] at h
  cases h
  intro fd hfd w
  simp only [List.mem_toArray, List.mem_cons, List.not_mem_nil, or_false] at hfd
  rcases hfd with rfl | rfl
  · exact Tryd.sizeOf3 w
  · exact Tryd.sizeOf9 w
def tapi_Cite : Ty api_Cite := tMap (tP (tI .i64) (tP (tL tapi_Step) (tP tS (tP (tI .i64) (tOne (tI .i64)))))) (fun x : api_Cite => (x.Kind, x.Path, x.To, x.From, x.At))
theorem fapi_Cite_0 : Fld tapi_Cite 0 (tI .i64) (fun x => x.Kind) := (Fld.map (m := (fun x : api_Cite => (x.Kind, x.Path, x.To, x.From, x.At))) (Fld.here (tI .i64) (tP (tL tapi_Step) (tP tS (tP (tI .i64) (tOne (tI .i64))))))).cast rfl rfl
theorem sapi_Cite_0 : FldSet tapi_Cite 0 (tI .i64) (fun x y => { x with Kind := y }) := (FldSet.map (m := (fun x : api_Cite => (x.Kind, x.Path, x.To, x.From, x.At))) (f' := fun x y => { x with Kind := y }) (FldSet.here (tI .i64) (tP (tL tapi_Step) (tP tS (tP (tI .i64) (tOne (tI .i64)))))) (fun _ _ => rfl)).cast rfl rfl
theorem fapi_Cite_1 : Fld tapi_Cite 1 (tL tapi_Step) (fun x => x.Path) := (Fld.map (m := (fun x : api_Cite => (x.Kind, x.Path, x.To, x.From, x.At))) (Fld.next (s := (tI .i64)) (Fld.here (tL tapi_Step) (tP tS (tP (tI .i64) (tOne (tI .i64))))))).cast rfl rfl
theorem sapi_Cite_1 : FldSet tapi_Cite 1 (tL tapi_Step) (fun x y => { x with Path := y }) := (FldSet.map (m := (fun x : api_Cite => (x.Kind, x.Path, x.To, x.From, x.At))) (f' := fun x y => { x with Path := y }) (FldSet.next (s := (tI .i64)) (FldSet.here (tL tapi_Step) (tP tS (tP (tI .i64) (tOne (tI .i64)))))) (fun _ _ => rfl)).cast rfl rfl
theorem fapi_Cite_2 : Fld tapi_Cite 2 tS (fun x => x.To) := (Fld.map (m := (fun x : api_Cite => (x.Kind, x.Path, x.To, x.From, x.At))) (Fld.next (s := (tI .i64)) (Fld.next (s := (tL tapi_Step)) (Fld.here tS (tP (tI .i64) (tOne (tI .i64))))))).cast rfl rfl
theorem fapi_Cite_3 : Fld tapi_Cite 3 (tI .i64) (fun x => x.From) := (Fld.map (m := (fun x : api_Cite => (x.Kind, x.Path, x.To, x.From, x.At))) (Fld.next (s := (tI .i64)) (Fld.next (s := (tL tapi_Step)) (Fld.next (s := tS) (Fld.here (tI .i64) (tOne (tI .i64))))))).cast rfl rfl
theorem sapi_Cite_3 : FldSet tapi_Cite 3 (tI .i64) (fun x y => { x with From := y }) := (FldSet.map (m := (fun x : api_Cite => (x.Kind, x.Path, x.To, x.From, x.At))) (f' := fun x y => { x with From := y }) (FldSet.next (s := (tI .i64)) (FldSet.next (s := (tL tapi_Step)) (FldSet.next (s := tS) (FldSet.here (tI .i64) (tOne (tI .i64)))))) (fun _ _ => rfl)).cast rfl rfl
theorem fapi_Cite_4 : Fld tapi_Cite 4 (tI .i64) (fun x => x.At) := (Fld.map (m := (fun x : api_Cite => (x.Kind, x.Path, x.To, x.From, x.At))) (Fld.next (s := (tI .i64)) (Fld.next (s := (tL tapi_Step)) (Fld.next (s := tS) (Fld.next (s := (tI .i64)) (Fld.one (tI .i64))))))).cast rfl rfl
theorem sapi_Cite_4 : FldSet tapi_Cite 4 (tI .i64) (fun x y => { x with At := y }) := (FldSet.map (m := (fun x : api_Cite => (x.Kind, x.Path, x.To, x.From, x.At))) (f' := fun x y => { x with At := y }) (FldSet.next (s := (tI .i64)) (FldSet.next (s := (tL tapi_Step)) (FldSet.next (s := tS) (FldSet.next (s := (tI .i64)) (FldSet.one (tI .i64)))))) (fun _ _ => rfl)).cast rfl rfl
def zapi_Cite_f (fd : Field) : Nat := if fd.type = 3 then 1 else if fd.type = 9 then 1 else if fd.type = 22 then 1 else 0
theorem zapi_Cite_sz : ∀ fs, Tryd.prog.underlying 24 = some (.struct fs) → ∀ fd, fd ∈ fs → ∀ w, (sizeOf fd.type).run Tryd.prog w = .ok (zapi_Cite_f fd) w := by
  intro fs h
  rw [Tryd.underlying24] at h
  cases h
  intro fd hfd w
  simp only [List.mem_toArray, List.mem_cons, List.not_mem_nil, or_false] at hfd
  rcases hfd with rfl | rfl | rfl | rfl | rfl
  · exact Tryd.sizeOf3 w
  · exact Tryd.sizeOf22 w
  · exact Tryd.sizeOf9 w
  · exact Tryd.sizeOf3 w
  · exact Tryd.sizeOf3 w
def tcitation_reader : Ty citation_reader := tMap (tP (tL tS) (tP (tI .i64) (tOne tB))) (fun x : citation_reader => (x.l_, x.at_, x.ended_))
theorem fcitation_reader_0 : Fld tcitation_reader 0 (tL tS) (fun x => x.l_) := (Fld.map (m := (fun x : citation_reader => (x.l_, x.at_, x.ended_))) (Fld.here (tL tS) (tP (tI .i64) (tOne tB)))).cast rfl rfl
theorem scitation_reader_0 : FldSet tcitation_reader 0 (tL tS) (fun x y => { x with l_ := y }) := (FldSet.map (m := (fun x : citation_reader => (x.l_, x.at_, x.ended_))) (f' := fun x y => { x with l_ := y }) (FldSet.here (tL tS) (tP (tI .i64) (tOne tB))) (fun _ _ => rfl)).cast rfl rfl
theorem fcitation_reader_1 : Fld tcitation_reader 1 (tI .i64) (fun x => x.at_) := (Fld.map (m := (fun x : citation_reader => (x.l_, x.at_, x.ended_))) (Fld.next (s := (tL tS)) (Fld.here (tI .i64) (tOne tB)))).cast rfl rfl
theorem scitation_reader_1 : FldSet tcitation_reader 1 (tI .i64) (fun x y => { x with at_ := y }) := (FldSet.map (m := (fun x : citation_reader => (x.l_, x.at_, x.ended_))) (f' := fun x y => { x with at_ := y }) (FldSet.next (s := (tL tS)) (FldSet.here (tI .i64) (tOne tB))) (fun _ _ => rfl)).cast rfl rfl
theorem fcitation_reader_2 : Fld tcitation_reader 2 tB (fun x => x.ended_) := (Fld.map (m := (fun x : citation_reader => (x.l_, x.at_, x.ended_))) (Fld.next (s := (tL tS)) (Fld.next (s := (tI .i64)) (Fld.one tB)))).cast rfl rfl
theorem scitation_reader_2 : FldSet tcitation_reader 2 tB (fun x y => { x with ended_ := y }) := (FldSet.map (m := (fun x : citation_reader => (x.l_, x.at_, x.ended_))) (f' := fun x y => { x with ended_ := y }) (FldSet.next (s := (tL tS)) (FldSet.next (s := (tI .i64)) (FldSet.one tB))) (fun _ _ => rfl)).cast rfl rfl
def zcitation_reader_f (fd : Field) : Nat := if fd.type = 3 then 1 else if fd.type = 4 then 1 else if fd.type = 28 then 1 else 0
theorem zcitation_reader_sz : ∀ fs, Tryd.prog.underlying 79 = some (.struct fs) → ∀ fd, fd ∈ fs → ∀ w, (sizeOf fd.type).run Tryd.prog w = .ok (zcitation_reader_f fd) w := by
  intro fs h
  rw [Tryd.underlying79] at h
  cases h
  intro fd hfd w
  simp only [List.mem_toArray, List.mem_cons, List.not_mem_nil, or_false] at hfd
  rcases hfd with rfl | rfl | rfl
  · exact Tryd.sizeOf28 w
  · exact Tryd.sizeOf3 w
  · exact Tryd.sizeOf4 w
def tapi_Cite_k1 (k : Tok) : Ty api_Cite := tMap (tP (tI .i64) (tP (tOT tapi_Step k) (tP tS (tP (tI .i64) (tOne (tI .i64)))))) (fun x : api_Cite => (x.Kind, x.Path, x.To, x.From, x.At))
theorem fapi_Cite_k1_0 (k : Tok) : Fld (tapi_Cite_k1 k) 0 (tI .i64) (fun x => x.Kind) := (Fld.map (m := (fun x : api_Cite => (x.Kind, x.Path, x.To, x.From, x.At))) (Fld.here (tI .i64) (tP (tOT tapi_Step k) (tP tS (tP (tI .i64) (tOne (tI .i64))))))).cast rfl rfl
theorem sapi_Cite_k1_0 (k : Tok) : FldSet (tapi_Cite_k1 k) 0 (tI .i64) (fun x y => { x with Kind := y }) := (FldSet.map (m := (fun x : api_Cite => (x.Kind, x.Path, x.To, x.From, x.At))) (f' := fun x y => { x with Kind := y }) (FldSet.here (tI .i64) (tP (tOT tapi_Step k) (tP tS (tP (tI .i64) (tOne (tI .i64)))))) (fun _ _ => rfl)).cast rfl rfl
theorem fapi_Cite_k1_1 (k : Tok) : Fld (tapi_Cite_k1 k) 1 (tOT tapi_Step k) (fun x => x.Path) := (Fld.map (m := (fun x : api_Cite => (x.Kind, x.Path, x.To, x.From, x.At))) (Fld.next (s := (tI .i64)) (Fld.here (tOT tapi_Step k) (tP tS (tP (tI .i64) (tOne (tI .i64))))))).cast rfl rfl
theorem sapi_Cite_k1_2 (k : Tok) : FldSet (tapi_Cite_k1 k) 2 tS (fun x y => { x with To := y }) := (FldSet.map (m := (fun x : api_Cite => (x.Kind, x.Path, x.To, x.From, x.At))) (f' := fun x y => { x with To := y }) (FldSet.next (s := (tI .i64)) (FldSet.next (s := (tOT tapi_Step k)) (FldSet.here tS (tP (tI .i64) (tOne (tI .i64)))))) (fun _ _ => rfl)).cast rfl rfl
theorem sTapi_Cite_k1 (k k2 : Tok) : FldSetT (tapi_Cite_k1 k) (tapi_Cite_k1 k2) 1 (tOT tapi_Step k2) (fun x y => { x with Path := y }) := (FldSetT.map (m := (fun x : api_Cite => (x.Kind, x.Path, x.To, x.From, x.At))) (f' := fun x y => { x with Path := y }) (FldSetT.next (s := (tI .i64)) (FldSetT.here (tOT tapi_Step k) (tOT tapi_Step k2) (tP tS (tP (tI .i64) (tOne (tI .i64)))) rfl)) (fun _ _ => rfl)).cast rfl rfl
theorem s0api_Cite_k1 (k2 : Tok) : FldSetT tapi_Cite (tapi_Cite_k1 k2) 1 (tOT tapi_Step k2) (fun x y => { x with Path := y }) := (FldSetT.map (m := (fun x : api_Cite => (x.Kind, x.Path, x.To, x.From, x.At))) (f' := fun x y => { x with Path := y }) (FldSetT.next (s := (tI .i64)) (FldSetT.here (tL tapi_Step) (tOT tapi_Step k2) (tP tS (tP (tI .i64) (tOne (tI .i64)))) rfl)) (fun _ _ => rfl)).cast rfl rfl
theorem leapi_Cite_k1 (k : Tok) : Le (tapi_Cite_k1 k) tapi_Cite := Le.mapT (Le.pair (Le.refl _) (Le.pair (tOT_le _ _) (Le.refl _))) _
theorem zeapi_Cite_k1 : ZeroAt Tryd.prog 24 (tapi_Cite_k1 none) zapi_Cite := ⟨_, Tryd.zeroValue24, fun _ => ⟨_, ⟨_, _, rfl, ⟨rfl, inR64.2 ⟨by decide, by decide⟩⟩, ⟨_, _, rfl, ⟨_, rfl, ⟨rfl, Nat.le_refl _, Nat.zero_le _, rfl⟩⟩, ⟨_, _, rfl, ⟨rfl, by decide⟩, ⟨_, _, rfl, ⟨rfl, inR64.2 ⟨by decide, by decide⟩⟩, ⟨rfl, inR64.2 ⟨by decide, by decide⟩⟩⟩⟩⟩⟩, rfl⟩⟩
theorem ty3 : TyAt Tryd.prog 3 (tI .i64) := ⟨Tryd.isAgg3, Tryd.sizeOf3⟩
theorem ty4 : TyAt Tryd.prog 4 tB := ⟨Tryd.isAgg4, Tryd.sizeOf4⟩
theorem el5 : ElAt Tryd.prog 5 (tI .u8) := ⟨⟨Tryd.t5, _, Tryd.type5, rfl, rfl, by decide, rfl⟩, by decide⟩
theorem ty9 : TyAt Tryd.prog 9 tS := ⟨Tryd.isAgg9, Tryd.sizeOf9⟩
theorem el9 : ElAt Tryd.prog 9 tS := ⟨⟨Tryd.t9, _, Tryd.type9, rfl, rfl, by decide, rfl⟩, by decide⟩
theorem ze9 : ZeroAt Tryd.prog 9 tS ([] : Str) := ⟨_, Tryd.zeroValue9, fun _ => ⟨_, ⟨rfl, by decide⟩, rfl⟩⟩
theorem ty22 : TyAt Tryd.prog 22 (tL tapi_Step) := ⟨Tryd.isAgg22, Tryd.sizeOf22⟩
theorem ty24 : TyAt Tryd.prog 24 tapi_Cite := ⟨Tryd.isAgg24, Tryd.sizeOf24⟩
theorem el24 : ElAt Tryd.prog 24 tapi_Cite := ⟨⟨Tryd.t24, _, Tryd.type24, rfl, rfl, by decide, rfl⟩, by decide⟩
theorem ze24 : ZeroAt Tryd.prog 24 tapi_Cite zapi_Cite := ⟨_, Tryd.zeroValue24, fun _ => ⟨_, ⟨_, _, rfl, ⟨rfl, inR64.2 ⟨by decide, by decide⟩⟩, ⟨_, _, rfl, ⟨none, 0, rfl, Nat.le_refl _, Nat.zero_le _, fun _ => rfl, rfl⟩, ⟨_, _, rfl, ⟨rfl, by decide⟩, ⟨_, _, rfl, ⟨rfl, inR64.2 ⟨by decide, by decide⟩⟩, ⟨rfl, inR64.2 ⟨by decide, by decide⟩⟩⟩⟩⟩⟩, rfl⟩⟩
theorem ty28 : TyAt Tryd.prog 28 (tL tS) := ⟨Tryd.isAgg28, Tryd.sizeOf28⟩
theorem ty50 : TyAt Tryd.prog 50 tapi_Step := ⟨Tryd.isAgg50, Tryd.sizeOf50⟩
theorem el50 : ElAt Tryd.prog 50 tapi_Step := ⟨⟨Tryd.t50, _, Tryd.type50, rfl, rfl, by decide, rfl⟩, by decide⟩
theorem ze50 : ZeroAt Tryd.prog 50 tapi_Step zapi_Step := ⟨_, Tryd.zeroValue50, fun _ => ⟨_, ⟨_, _, rfl, ⟨rfl, inR64.2 ⟨by decide, by decide⟩⟩, ⟨rfl, by decide⟩⟩, rfl⟩⟩
theorem ty76 : TyAt Tryd.prog 76 (tFnR Tryd.prog tcitation_reader 79 (fun y : api_Cite => (tapi_Cite.is y))) := ⟨Tryd.isAgg76, Tryd.sizeOf76⟩
theorem el76 : ElAt Tryd.prog 76 (tFnR Tryd.prog tcitation_reader 79 (fun y : api_Cite => (tapi_Cite.is y))) := ⟨⟨Tryd.t76, _, Tryd.type76, rfl, rfl, by decide, rfl⟩, by decide⟩
theorem ze76 : ZeroAt Tryd.prog 76 (tFnR Tryd.prog tcitation_reader 79 (fun y : api_Cite => (tapi_Cite.is y))) (fun _ => none : citation_reader → Option (api_Cite × citation_reader)) := ⟨_, Tryd.zeroValue76, fun _ => ⟨_, ⟨_, rfl, .inr ⟨rfl, fun _ => rfl⟩⟩, rfl⟩⟩
theorem ty79 : TyAt Tryd.prog 79 tcitation_reader := ⟨Tryd.isAgg79, Tryd.sizeOf79⟩
theorem ze79 : ZeroAt Tryd.prog 79 tcitation_reader zcitation_reader := ⟨_, Tryd.zeroValue79, fun _ => ⟨_, ⟨_, _, rfl, ⟨none, 0, rfl, Nat.le_refl _, Nat.zero_le _, fun _ => rfl, rfl⟩, ⟨_, _, rfl, ⟨rfl, inR64.2 ⟨by decide, by decide⟩⟩, rfl⟩⟩, rfl⟩⟩
theorem eq50 : EqT (α := api_Step) (P := Tryd.prog) (T := 50) (t := tapi_Step) (D := 2) := EqT.struct (D := 1) rfl Tryd.underlying50 (by kernel_rfl) ⟨_, inferInstance, _, _, _, by decide, ty3, fapi_Step_0, ((EqT.int Tryd.underlying3).up (by decide)), ⟨_, inferInstance, _, _, _, by decide, ty9, fapi_Step_1, ((EqT.string Tryd.underlying9).up (by decide)), rfl, rfl⟩, rfl⟩ (fun x y => by cases x; cases y; simp)
theorem eg50 : Tryd.prog.eqGuardType Tryd.prog.depth 50 = false := by kernel_rfl
theorem fl9 : Flat tS := Flat.S
end Go.Proofs.YtnmkblpbmoikpaaDoor
