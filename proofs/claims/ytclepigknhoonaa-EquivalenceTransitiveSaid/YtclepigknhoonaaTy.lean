/-
  How the types of the program are read.
-/
import Derived.Test.YtclepigknhoonaaDec21
import Derived.Test.YtclepigknhoonaaDec24
import Derived.Test.YtclepigknhoonaaSh
import Derived.Test.YtclepigknhoonaaDec25
import Derived.Test.YtclepigknhoonaaDec26
import Derived.Test.YtclepigknhoonaaDec27
import Derived.Test.YtclepigknhoonaaDec28
import Derived.Test.YtclepigknhoonaaDec29
import Derived.Test.YtclepigknhoonaaDec31
import Derived.Test.YtclepigknhoonaaDec30
import Derived.Test.YtclepigknhoonaaDec32
import Derived.Test.YtclepigknhoonaaMdl
import Derived.Test.YtclepigknhoonaaProg
import Derived.KernelRfl
set_option maxRecDepth 100000
namespace Go.Proofs.Ytclepigknhoonaa
open Go Go.Dec

theorem Try.mixed : Try.prog.follows .mixedOrders = true := by kernel_rfl

def tapi_Id : Ty api_Id := tMap (tP (tI .i64) (tP (tI .i64) (tOne (tI .i64)))) (fun x : api_Id => (x.Act, x.Item, x.N))
theorem fapi_Id_0 : Fld tapi_Id 0 (tI .i64) (fun x => x.Act) := (Fld.map (m := (fun x : api_Id => (x.Act, x.Item, x.N))) (Fld.here (tI .i64) (tP (tI .i64) (tOne (tI .i64))))).cast rfl rfl
theorem sapi_Id_0 : FldSet tapi_Id 0 (tI .i64) (fun x y => { x with Act := y }) := (FldSet.map (m := (fun x : api_Id => (x.Act, x.Item, x.N))) (f' := fun x y => { x with Act := y }) (FldSet.here (tI .i64) (tP (tI .i64) (tOne (tI .i64)))) (fun _ _ => rfl)).cast rfl rfl
theorem fapi_Id_1 : Fld tapi_Id 1 (tI .i64) (fun x => x.Item) := (Fld.map (m := (fun x : api_Id => (x.Act, x.Item, x.N))) (Fld.next (s := (tI .i64)) (Fld.here (tI .i64) (tOne (tI .i64))))).cast rfl rfl
theorem sapi_Id_1 : FldSet tapi_Id 1 (tI .i64) (fun x y => { x with Item := y }) := (FldSet.map (m := (fun x : api_Id => (x.Act, x.Item, x.N))) (f' := fun x y => { x with Item := y }) (FldSet.next (s := (tI .i64)) (FldSet.here (tI .i64) (tOne (tI .i64)))) (fun _ _ => rfl)).cast rfl rfl
theorem fapi_Id_2 : Fld tapi_Id 2 (tI .i64) (fun x => x.N) := (Fld.map (m := (fun x : api_Id => (x.Act, x.Item, x.N))) (Fld.next (s := (tI .i64)) (Fld.next (s := (tI .i64)) (Fld.one (tI .i64))))).cast rfl rfl
theorem sapi_Id_2 : FldSet tapi_Id 2 (tI .i64) (fun x y => { x with N := y }) := (FldSet.map (m := (fun x : api_Id => (x.Act, x.Item, x.N))) (f' := fun x y => { x with N := y }) (FldSet.next (s := (tI .i64)) (FldSet.next (s := (tI .i64)) (FldSet.one (tI .i64)))) (fun _ _ => rfl)).cast rfl rfl
def zapi_Id_f (fd : Field) : Nat := if fd.type = 3 then 1 else 0
theorem zapi_Id_sz : ∀ fs, Try.prog.underlying 23 = some (.struct fs) → ∀ fd, fd ∈ fs → ∀ w, (sizeOf fd.type).run Try.prog w = .ok (zapi_Id_f fd) w := by
  intro fs h
  rw [Try.underlying23] at h
  cases h
  intro fd hfd w
  simp only [List.mem_toArray, List.mem_cons, List.not_mem_nil, or_false] at hfd
  rcases hfd with rfl | rfl | rfl
  · exact Try.sizeOf3 w
  · exact Try.sizeOf3 w
  · exact Try.sizeOf3 w

def tapi_Mark : Ty api_Mark := tMap (tP (tI .i64) (tP (tI .i64) (tOne (tI .i64)))) (fun x : api_Mark => (x.Act, x.Item, x.At))
theorem fapi_Mark_0 : Fld tapi_Mark 0 (tI .i64) (fun x => x.Act) := (Fld.map (m := (fun x : api_Mark => (x.Act, x.Item, x.At))) (Fld.here (tI .i64) (tP (tI .i64) (tOne (tI .i64))))).cast rfl rfl
theorem sapi_Mark_0 : FldSet tapi_Mark 0 (tI .i64) (fun x y => { x with Act := y }) := (FldSet.map (m := (fun x : api_Mark => (x.Act, x.Item, x.At))) (f' := fun x y => { x with Act := y }) (FldSet.here (tI .i64) (tP (tI .i64) (tOne (tI .i64)))) (fun _ _ => rfl)).cast rfl rfl
theorem fapi_Mark_1 : Fld tapi_Mark 1 (tI .i64) (fun x => x.Item) := (Fld.map (m := (fun x : api_Mark => (x.Act, x.Item, x.At))) (Fld.next (s := (tI .i64)) (Fld.here (tI .i64) (tOne (tI .i64))))).cast rfl rfl
theorem sapi_Mark_1 : FldSet tapi_Mark 1 (tI .i64) (fun x y => { x with Item := y }) := (FldSet.map (m := (fun x : api_Mark => (x.Act, x.Item, x.At))) (f' := fun x y => { x with Item := y }) (FldSet.next (s := (tI .i64)) (FldSet.here (tI .i64) (tOne (tI .i64)))) (fun _ _ => rfl)).cast rfl rfl
theorem fapi_Mark_2 : Fld tapi_Mark 2 (tI .i64) (fun x => x.At) := (Fld.map (m := (fun x : api_Mark => (x.Act, x.Item, x.At))) (Fld.next (s := (tI .i64)) (Fld.next (s := (tI .i64)) (Fld.one (tI .i64))))).cast rfl rfl
theorem sapi_Mark_2 : FldSet tapi_Mark 2 (tI .i64) (fun x y => { x with At := y }) := (FldSet.map (m := (fun x : api_Mark => (x.Act, x.Item, x.At))) (f' := fun x y => { x with At := y }) (FldSet.next (s := (tI .i64)) (FldSet.next (s := (tI .i64)) (FldSet.one (tI .i64)))) (fun _ _ => rfl)).cast rfl rfl
def zapi_Mark_f (fd : Field) : Nat := if fd.type = 3 then 1 else 0
theorem zapi_Mark_sz : ∀ fs, Try.prog.underlying 47 = some (.struct fs) → ∀ fd, fd ∈ fs → ∀ w, (sizeOf fd.type).run Try.prog w = .ok (zapi_Mark_f fd) w := by
  intro fs h
  rw [Try.underlying47] at h
  cases h
  intro fd hfd w
  simp only [List.mem_toArray, List.mem_cons, List.not_mem_nil, or_false] at hfd
  rcases hfd with rfl | rfl | rfl
  · exact Try.sizeOf3 w
  · exact Try.sizeOf3 w
  · exact Try.sizeOf3 w

def tapi_Word : Ty api_Word := tMap (tP tS (tOne tapi_Mark)) (fun x : api_Word => (x.Text, x.By))
theorem fapi_Word_0 : Fld tapi_Word 0 tS (fun x => x.Text) := (Fld.map (m := (fun x : api_Word => (x.Text, x.By))) (Fld.here tS (tOne tapi_Mark))).cast rfl rfl
theorem sapi_Word_0 : FldSet tapi_Word 0 tS (fun x y => { x with Text := y }) := (FldSet.map (m := (fun x : api_Word => (x.Text, x.By))) (f' := fun x y => { x with Text := y }) (FldSet.here tS (tOne tapi_Mark)) (fun _ _ => rfl)).cast rfl rfl
theorem fapi_Word_1 : Fld tapi_Word 1 tapi_Mark (fun x => x.By) := (Fld.map (m := (fun x : api_Word => (x.Text, x.By))) (Fld.next (s := tS) (Fld.one tapi_Mark))).cast rfl rfl
theorem sapi_Word_1 : FldSet tapi_Word 1 tapi_Mark (fun x y => { x with By := y }) := (FldSet.map (m := (fun x : api_Word => (x.Text, x.By))) (f' := fun x y => { x with By := y }) (FldSet.next (s := tS) (FldSet.one tapi_Mark)) (fun _ _ => rfl)).cast rfl rfl
def zapi_Word_f (fd : Field) : Nat := if fd.type = 9 then 1 else if fd.type = 47 then 3 else 0
theorem zapi_Word_sz : ∀ fs, Try.prog.underlying 49 = some (.struct fs) → ∀ fd, fd ∈ fs → ∀ w, (sizeOf fd.type).run Try.prog w = .ok (zapi_Word_f fd) w := by
  intro fs h
  rw [Try.underlying49] at h
  cases h
  intro fd hfd w
  simp only [List.mem_toArray, List.mem_cons, List.not_mem_nil, or_false] at hfd
  rcases hfd with rfl | rfl
  · exact Try.sizeOf9 w
  · exact Try.sizeOf47 w

def Fapi_Unit (X : Ty api_Unit) : Ty api_Unit := tMap (tP tapi_Id (tP (tI .i64) (tP tS (tP (tL tapi_Word) (tP (tL tapi_Word) (tOne (tL X))))))) (fun x : api_Unit => (x.Id, x.Kind, x.Label, x.Head, x.Words, x.Kids))
theorem capi_Unit : Cont Fapi_Unit := Cont.map (fun x : api_Unit => (x.Id, x.Kind, x.Label, x.Head, x.Words, x.Kids)) (Cont.pair (Cont.const _) (Cont.pair (Cont.const _) (Cont.pair (Cont.const _) (Cont.pair (Cont.const _) (Cont.pair (Cont.const _) (Cont.one ((Cont.list Cont.id))))))))
theorem rapi_Unit : Rec Fapi_Unit 8 := ⟨capi_Unit, rfl, rfl⟩
def tapi_Unit : Ty api_Unit := tFix rapi_Unit
theorem fapi_Unit_0 : Fld tapi_Unit 0 tapi_Id (fun x => x.Id) := Fld.le rapi_Unit.out ((Fld.map (m := (fun x : api_Unit => (x.Id, x.Kind, x.Label, x.Head, x.Words, x.Kids))) (Fld.here tapi_Id (tP (tI .i64) (tP tS (tP (tL tapi_Word) (tP (tL tapi_Word) (tOne (tL tapi_Unit)))))))).cast rfl rfl)
theorem sapi_Unit_0 : FldSet tapi_Unit 0 tapi_Id (fun x y => { x with Id := y }) := FldSet.le rapi_Unit.out rapi_Unit.into ((FldSet.map (m := (fun x : api_Unit => (x.Id, x.Kind, x.Label, x.Head, x.Words, x.Kids))) (f' := fun x y => { x with Id := y }) (FldSet.here tapi_Id (tP (tI .i64) (tP tS (tP (tL tapi_Word) (tP (tL tapi_Word) (tOne (tL tapi_Unit))))))) (fun _ _ => rfl)).cast rfl rfl)
theorem fapi_Unit_1 : Fld tapi_Unit 3 (tI .i64) (fun x => x.Kind) := Fld.le rapi_Unit.out ((Fld.map (m := (fun x : api_Unit => (x.Id, x.Kind, x.Label, x.Head, x.Words, x.Kids))) (Fld.next (s := tapi_Id) (Fld.here (tI .i64) (tP tS (tP (tL tapi_Word) (tP (tL tapi_Word) (tOne (tL tapi_Unit)))))))).cast rfl rfl)
theorem sapi_Unit_1 : FldSet tapi_Unit 3 (tI .i64) (fun x y => { x with Kind := y }) := FldSet.le rapi_Unit.out rapi_Unit.into ((FldSet.map (m := (fun x : api_Unit => (x.Id, x.Kind, x.Label, x.Head, x.Words, x.Kids))) (f' := fun x y => { x with Kind := y }) (FldSet.next (s := tapi_Id) (FldSet.here (tI .i64) (tP tS (tP (tL tapi_Word) (tP (tL tapi_Word) (tOne (tL tapi_Unit))))))) (fun _ _ => rfl)).cast rfl rfl)
theorem fapi_Unit_2 : Fld tapi_Unit 4 tS (fun x => x.Label) := Fld.le rapi_Unit.out ((Fld.map (m := (fun x : api_Unit => (x.Id, x.Kind, x.Label, x.Head, x.Words, x.Kids))) (Fld.next (s := tapi_Id) (Fld.next (s := (tI .i64)) (Fld.here tS (tP (tL tapi_Word) (tP (tL tapi_Word) (tOne (tL tapi_Unit)))))))).cast rfl rfl)
theorem sapi_Unit_2 : FldSet tapi_Unit 4 tS (fun x y => { x with Label := y }) := FldSet.le rapi_Unit.out rapi_Unit.into ((FldSet.map (m := (fun x : api_Unit => (x.Id, x.Kind, x.Label, x.Head, x.Words, x.Kids))) (f' := fun x y => { x with Label := y }) (FldSet.next (s := tapi_Id) (FldSet.next (s := (tI .i64)) (FldSet.here tS (tP (tL tapi_Word) (tP (tL tapi_Word) (tOne (tL tapi_Unit))))))) (fun _ _ => rfl)).cast rfl rfl)
theorem fapi_Unit_3 : Fld tapi_Unit 5 (tL tapi_Word) (fun x => x.Head) := Fld.le rapi_Unit.out ((Fld.map (m := (fun x : api_Unit => (x.Id, x.Kind, x.Label, x.Head, x.Words, x.Kids))) (Fld.next (s := tapi_Id) (Fld.next (s := (tI .i64)) (Fld.next (s := tS) (Fld.here (tL tapi_Word) (tP (tL tapi_Word) (tOne (tL tapi_Unit)))))))).cast rfl rfl)
theorem sapi_Unit_3 : FldSet tapi_Unit 5 (tL tapi_Word) (fun x y => { x with Head := y }) := FldSet.le rapi_Unit.out rapi_Unit.into ((FldSet.map (m := (fun x : api_Unit => (x.Id, x.Kind, x.Label, x.Head, x.Words, x.Kids))) (f' := fun x y => { x with Head := y }) (FldSet.next (s := tapi_Id) (FldSet.next (s := (tI .i64)) (FldSet.next (s := tS) (FldSet.here (tL tapi_Word) (tP (tL tapi_Word) (tOne (tL tapi_Unit))))))) (fun _ _ => rfl)).cast rfl rfl)
theorem fapi_Unit_4 : Fld tapi_Unit 6 (tL tapi_Word) (fun x => x.Words) := Fld.le rapi_Unit.out ((Fld.map (m := (fun x : api_Unit => (x.Id, x.Kind, x.Label, x.Head, x.Words, x.Kids))) (Fld.next (s := tapi_Id) (Fld.next (s := (tI .i64)) (Fld.next (s := tS) (Fld.next (s := (tL tapi_Word)) (Fld.here (tL tapi_Word) (tOne (tL tapi_Unit)))))))).cast rfl rfl)
theorem sapi_Unit_4 : FldSet tapi_Unit 6 (tL tapi_Word) (fun x y => { x with Words := y }) := FldSet.le rapi_Unit.out rapi_Unit.into ((FldSet.map (m := (fun x : api_Unit => (x.Id, x.Kind, x.Label, x.Head, x.Words, x.Kids))) (f' := fun x y => { x with Words := y }) (FldSet.next (s := tapi_Id) (FldSet.next (s := (tI .i64)) (FldSet.next (s := tS) (FldSet.next (s := (tL tapi_Word)) (FldSet.here (tL tapi_Word) (tOne (tL tapi_Unit))))))) (fun _ _ => rfl)).cast rfl rfl)
theorem fapi_Unit_5 : Fld tapi_Unit 7 (tL tapi_Unit) (fun x => x.Kids) := Fld.le rapi_Unit.out ((Fld.map (m := (fun x : api_Unit => (x.Id, x.Kind, x.Label, x.Head, x.Words, x.Kids))) (Fld.next (s := tapi_Id) (Fld.next (s := (tI .i64)) (Fld.next (s := tS) (Fld.next (s := (tL tapi_Word)) (Fld.next (s := (tL tapi_Word)) (Fld.one (tL tapi_Unit)))))))).cast rfl rfl)
theorem sapi_Unit_5 : FldSet tapi_Unit 7 (tL tapi_Unit) (fun x y => { x with Kids := y }) := FldSet.le rapi_Unit.out rapi_Unit.into ((FldSet.map (m := (fun x : api_Unit => (x.Id, x.Kind, x.Label, x.Head, x.Words, x.Kids))) (f' := fun x y => { x with Kids := y }) (FldSet.next (s := tapi_Id) (FldSet.next (s := (tI .i64)) (FldSet.next (s := tS) (FldSet.next (s := (tL tapi_Word)) (FldSet.next (s := (tL tapi_Word)) (FldSet.one (tL tapi_Unit))))))) (fun _ _ => rfl)).cast rfl rfl)
def zapi_Unit_f (fd : Field) : Nat := if fd.type = 3 then 1 else if fd.type = 9 then 1 else if fd.type = 23 then 3 else if fd.type = 24 then 1 else if fd.type = 25 then 1 else 0
theorem zapi_Unit_sz : ∀ fs, Try.prog.underlying 27 = some (.struct fs) → ∀ fd, fd ∈ fs → ∀ w, (sizeOf fd.type).run Try.prog w = .ok (zapi_Unit_f fd) w := by
  intro fs h
  rw [Try.underlying27] at h
  cases h
  intro fd hfd w
  simp only [List.mem_toArray, List.mem_cons, List.not_mem_nil, or_false] at hfd
  rcases hfd with rfl | rfl | rfl | rfl | rfl | rfl
  · exact Try.sizeOf23 w
  · exact Try.sizeOf3 w
  · exact Try.sizeOf9 w
  · exact Try.sizeOf24 w
  · exact Try.sizeOf24 w
  · exact Try.sizeOf25 w

def tapi_Meaning : Ty api_Meaning := tMap (tP tapi_Id (tP (tI .i64) (tOne (tL tapi_Id)))) (fun x : api_Meaning => (x.At, x.N, x.To))
theorem fapi_Meaning_0 : Fld tapi_Meaning 0 tapi_Id (fun x => x.At) := (Fld.map (m := (fun x : api_Meaning => (x.At, x.N, x.To))) (Fld.here tapi_Id (tP (tI .i64) (tOne (tL tapi_Id))))).cast rfl rfl
theorem sapi_Meaning_0 : FldSet tapi_Meaning 0 tapi_Id (fun x y => { x with At := y }) := (FldSet.map (m := (fun x : api_Meaning => (x.At, x.N, x.To))) (f' := fun x y => { x with At := y }) (FldSet.here tapi_Id (tP (tI .i64) (tOne (tL tapi_Id)))) (fun _ _ => rfl)).cast rfl rfl
theorem fapi_Meaning_1 : Fld tapi_Meaning 3 (tI .i64) (fun x => x.N) := (Fld.map (m := (fun x : api_Meaning => (x.At, x.N, x.To))) (Fld.next (s := tapi_Id) (Fld.here (tI .i64) (tOne (tL tapi_Id))))).cast rfl rfl
theorem sapi_Meaning_1 : FldSet tapi_Meaning 3 (tI .i64) (fun x y => { x with N := y }) := (FldSet.map (m := (fun x : api_Meaning => (x.At, x.N, x.To))) (f' := fun x y => { x with N := y }) (FldSet.next (s := tapi_Id) (FldSet.here (tI .i64) (tOne (tL tapi_Id)))) (fun _ _ => rfl)).cast rfl rfl
theorem fapi_Meaning_2 : Fld tapi_Meaning 4 (tL tapi_Id) (fun x => x.To) := (Fld.map (m := (fun x : api_Meaning => (x.At, x.N, x.To))) (Fld.next (s := tapi_Id) (Fld.next (s := (tI .i64)) (Fld.one (tL tapi_Id))))).cast rfl rfl
theorem sapi_Meaning_2 : FldSet tapi_Meaning 4 (tL tapi_Id) (fun x y => { x with To := y }) := (FldSet.map (m := (fun x : api_Meaning => (x.At, x.N, x.To))) (f' := fun x y => { x with To := y }) (FldSet.next (s := tapi_Id) (FldSet.next (s := (tI .i64)) (FldSet.one (tL tapi_Id)))) (fun _ _ => rfl)).cast rfl rfl
def zapi_Meaning_f (fd : Field) : Nat := if fd.type = 3 then 1 else if fd.type = 23 then 3 else if fd.type = 36 then 1 else 0
theorem zapi_Meaning_sz : ∀ fs, Try.prog.underlying 44 = some (.struct fs) → ∀ fd, fd ∈ fs → ∀ w, (sizeOf fd.type).run Try.prog w = .ok (zapi_Meaning_f fd) w := by
  intro fs h
  rw [Try.underlying44] at h
  cases h
  intro fd hfd w
  simp only [List.mem_toArray, List.mem_cons, List.not_mem_nil, or_false] at hfd
  rcases hfd with rfl | rfl | rfl
  · exact Try.sizeOf23 w
  · exact Try.sizeOf3 w
  · exact Try.sizeOf36 w

def tapi_Destination : Ty api_Destination := tMap (tP tapi_Id (tOne tapi_Id)) (fun x : api_Destination => (x.From, x.To))
theorem fapi_Destination_0 : Fld tapi_Destination 0 tapi_Id (fun x => x.From) := (Fld.map (m := (fun x : api_Destination => (x.From, x.To))) (Fld.here tapi_Id (tOne tapi_Id))).cast rfl rfl
theorem sapi_Destination_0 : FldSet tapi_Destination 0 tapi_Id (fun x y => { x with From := y }) := (FldSet.map (m := (fun x : api_Destination => (x.From, x.To))) (f' := fun x y => { x with From := y }) (FldSet.here tapi_Id (tOne tapi_Id)) (fun _ _ => rfl)).cast rfl rfl
theorem fapi_Destination_1 : Fld tapi_Destination 3 tapi_Id (fun x => x.To) := (Fld.map (m := (fun x : api_Destination => (x.From, x.To))) (Fld.next (s := tapi_Id) (Fld.one tapi_Id))).cast rfl rfl
theorem sapi_Destination_1 : FldSet tapi_Destination 3 tapi_Id (fun x y => { x with To := y }) := (FldSet.map (m := (fun x : api_Destination => (x.From, x.To))) (f' := fun x y => { x with To := y }) (FldSet.next (s := tapi_Id) (FldSet.one tapi_Id)) (fun _ _ => rfl)).cast rfl rfl
def zapi_Destination_f (fd : Field) : Nat := if fd.type = 23 then 3 else 0
theorem zapi_Destination_sz : ∀ fs, Try.prog.underlying 56 = some (.struct fs) → ∀ fd, fd ∈ fs → ∀ w, (sizeOf fd.type).run Try.prog w = .ok (zapi_Destination_f fd) w := by
  intro fs h
  rw [Try.underlying56] at h
  cases h
  intro fd hfd w
  simp only [List.mem_toArray, List.mem_cons, List.not_mem_nil, or_false] at hfd
  rcases hfd with rfl | rfl
  · exact Try.sizeOf23 w
  · exact Try.sizeOf23 w

def tapi_Finding : Ty api_Finding := tMap (tP (tI .i64) (tP tapi_Id (tP (tI .i64) (tOne tS)))) (fun x : api_Finding => (x.At, x.Id, x.Why, x.Text))
theorem fapi_Finding_0 : Fld tapi_Finding 0 (tI .i64) (fun x => x.At) := (Fld.map (m := (fun x : api_Finding => (x.At, x.Id, x.Why, x.Text))) (Fld.here (tI .i64) (tP tapi_Id (tP (tI .i64) (tOne tS))))).cast rfl rfl
theorem sapi_Finding_0 : FldSet tapi_Finding 0 (tI .i64) (fun x y => { x with At := y }) := (FldSet.map (m := (fun x : api_Finding => (x.At, x.Id, x.Why, x.Text))) (f' := fun x y => { x with At := y }) (FldSet.here (tI .i64) (tP tapi_Id (tP (tI .i64) (tOne tS)))) (fun _ _ => rfl)).cast rfl rfl
theorem fapi_Finding_1 : Fld tapi_Finding 1 tapi_Id (fun x => x.Id) := (Fld.map (m := (fun x : api_Finding => (x.At, x.Id, x.Why, x.Text))) (Fld.next (s := (tI .i64)) (Fld.here tapi_Id (tP (tI .i64) (tOne tS))))).cast rfl rfl
theorem sapi_Finding_1 : FldSet tapi_Finding 1 tapi_Id (fun x y => { x with Id := y }) := (FldSet.map (m := (fun x : api_Finding => (x.At, x.Id, x.Why, x.Text))) (f' := fun x y => { x with Id := y }) (FldSet.next (s := (tI .i64)) (FldSet.here tapi_Id (tP (tI .i64) (tOne tS)))) (fun _ _ => rfl)).cast rfl rfl
theorem fapi_Finding_2 : Fld tapi_Finding 4 (tI .i64) (fun x => x.Why) := (Fld.map (m := (fun x : api_Finding => (x.At, x.Id, x.Why, x.Text))) (Fld.next (s := (tI .i64)) (Fld.next (s := tapi_Id) (Fld.here (tI .i64) (tOne tS))))).cast rfl rfl
theorem sapi_Finding_2 : FldSet tapi_Finding 4 (tI .i64) (fun x y => { x with Why := y }) := (FldSet.map (m := (fun x : api_Finding => (x.At, x.Id, x.Why, x.Text))) (f' := fun x y => { x with Why := y }) (FldSet.next (s := (tI .i64)) (FldSet.next (s := tapi_Id) (FldSet.here (tI .i64) (tOne tS)))) (fun _ _ => rfl)).cast rfl rfl
theorem fapi_Finding_3 : Fld tapi_Finding 5 tS (fun x => x.Text) := (Fld.map (m := (fun x : api_Finding => (x.At, x.Id, x.Why, x.Text))) (Fld.next (s := (tI .i64)) (Fld.next (s := tapi_Id) (Fld.next (s := (tI .i64)) (Fld.one tS))))).cast rfl rfl
theorem sapi_Finding_3 : FldSet tapi_Finding 5 tS (fun x y => { x with Text := y }) := (FldSet.map (m := (fun x : api_Finding => (x.At, x.Id, x.Why, x.Text))) (f' := fun x y => { x with Text := y }) (FldSet.next (s := (tI .i64)) (FldSet.next (s := tapi_Id) (FldSet.next (s := (tI .i64)) (FldSet.one tS)))) (fun _ _ => rfl)).cast rfl rfl
def zapi_Finding_f (fd : Field) : Nat := if fd.type = 3 then 1 else if fd.type = 9 then 1 else if fd.type = 23 then 3 else if fd.type = 51 then 1 else 0
theorem zapi_Finding_sz : ∀ fs, Try.prog.underlying 53 = some (.struct fs) → ∀ fd, fd ∈ fs → ∀ w, (sizeOf fd.type).run Try.prog w = .ok (zapi_Finding_f fd) w := by
  intro fs h
  rw [Try.underlying53] at h
  cases h
  intro fd hfd w
  simp only [List.mem_toArray, List.mem_cons, List.not_mem_nil, or_false] at hfd
  rcases hfd with rfl | rfl | rfl | rfl
  · exact Try.sizeOf3 w
  · exact Try.sizeOf23 w
  · exact Try.sizeOf51 w
  · exact Try.sizeOf9 w

def tequivalence_table : Ty equivalence_table := tMap (tP tapi_Unit (tP tapi_Unit (tP (tM tapi_Id (tL tapi_Id)) (tOne (tM tapi_Id (tL tapi_Id)))))) (fun x : equivalence_table => (x.a_, x.b_, x.to_, x.from_))
theorem fequivalence_table_0 : Fld tequivalence_table 0 tapi_Unit (fun x => x.a_) := (Fld.map (m := (fun x : equivalence_table => (x.a_, x.b_, x.to_, x.from_))) (Fld.here tapi_Unit (tP tapi_Unit (tP (tM tapi_Id (tL tapi_Id)) (tOne (tM tapi_Id (tL tapi_Id))))))).cast rfl rfl
theorem sequivalence_table_0 : FldSet tequivalence_table 0 tapi_Unit (fun x y => { x with a_ := y }) := (FldSet.map (m := (fun x : equivalence_table => (x.a_, x.b_, x.to_, x.from_))) (f' := fun x y => { x with a_ := y }) (FldSet.here tapi_Unit (tP tapi_Unit (tP (tM tapi_Id (tL tapi_Id)) (tOne (tM tapi_Id (tL tapi_Id)))))) (fun _ _ => rfl)).cast rfl rfl
theorem fequivalence_table_1 : Fld tequivalence_table 8 tapi_Unit (fun x => x.b_) := (Fld.map (m := (fun x : equivalence_table => (x.a_, x.b_, x.to_, x.from_))) (Fld.next (s := tapi_Unit) (Fld.here tapi_Unit (tP (tM tapi_Id (tL tapi_Id)) (tOne (tM tapi_Id (tL tapi_Id))))))).cast rfl rfl
theorem sequivalence_table_1 : FldSet tequivalence_table 8 tapi_Unit (fun x y => { x with b_ := y }) := (FldSet.map (m := (fun x : equivalence_table => (x.a_, x.b_, x.to_, x.from_))) (f' := fun x y => { x with b_ := y }) (FldSet.next (s := tapi_Unit) (FldSet.here tapi_Unit (tP (tM tapi_Id (tL tapi_Id)) (tOne (tM tapi_Id (tL tapi_Id)))))) (fun _ _ => rfl)).cast rfl rfl
theorem fequivalence_table_2 : Fld tequivalence_table 16 (tM tapi_Id (tL tapi_Id)) (fun x => x.to_) := (Fld.map (m := (fun x : equivalence_table => (x.a_, x.b_, x.to_, x.from_))) (Fld.next (s := tapi_Unit) (Fld.next (s := tapi_Unit) (Fld.here (tM tapi_Id (tL tapi_Id)) (tOne (tM tapi_Id (tL tapi_Id))))))).cast rfl rfl
theorem sequivalence_table_2 : FldSet tequivalence_table 16 (tM tapi_Id (tL tapi_Id)) (fun x y => { x with to_ := y }) := (FldSet.map (m := (fun x : equivalence_table => (x.a_, x.b_, x.to_, x.from_))) (f' := fun x y => { x with to_ := y }) (FldSet.next (s := tapi_Unit) (FldSet.next (s := tapi_Unit) (FldSet.here (tM tapi_Id (tL tapi_Id)) (tOne (tM tapi_Id (tL tapi_Id)))))) (fun _ _ => rfl)).cast rfl rfl
theorem fequivalence_table_3 : Fld tequivalence_table 17 (tM tapi_Id (tL tapi_Id)) (fun x => x.from_) := (Fld.map (m := (fun x : equivalence_table => (x.a_, x.b_, x.to_, x.from_))) (Fld.next (s := tapi_Unit) (Fld.next (s := tapi_Unit) (Fld.next (s := (tM tapi_Id (tL tapi_Id))) (Fld.one (tM tapi_Id (tL tapi_Id))))))).cast rfl rfl
theorem sequivalence_table_3 : FldSet tequivalence_table 17 (tM tapi_Id (tL tapi_Id)) (fun x y => { x with from_ := y }) := (FldSet.map (m := (fun x : equivalence_table => (x.a_, x.b_, x.to_, x.from_))) (f' := fun x y => { x with from_ := y }) (FldSet.next (s := tapi_Unit) (FldSet.next (s := tapi_Unit) (FldSet.next (s := (tM tapi_Id (tL tapi_Id))) (FldSet.one (tM tapi_Id (tL tapi_Id)))))) (fun _ _ => rfl)).cast rfl rfl
def zequivalence_table_f (fd : Field) : Nat := if fd.type = 27 then 8 else if fd.type = 74 then 1 else 0
theorem zequivalence_table_sz : ∀ fs, Try.prog.underlying 76 = some (.struct fs) → ∀ fd, fd ∈ fs → ∀ w, (sizeOf fd.type).run Try.prog w = .ok (zequivalence_table_f fd) w := by
  intro fs h
  rw [Try.underlying76] at h
  cases h
  intro fd hfd w
  simp only [List.mem_toArray, List.mem_cons, List.not_mem_nil, or_false] at hfd
  rcases hfd with rfl | rfl | rfl | rfl
  · exact Try.sizeOf27 w
  · exact Try.sizeOf27 w
  · exact Try.sizeOf74 w
  · exact Try.sizeOf74 w

def tapi_Step : Ty api_Step := tMap (tP (tI .i64) (tOne tS)) (fun x : api_Step => (x.Kind, x.Label))
theorem fapi_Step_0 : Fld tapi_Step 0 (tI .i64) (fun x => x.Kind) := (Fld.map (m := (fun x : api_Step => (x.Kind, x.Label))) (Fld.here (tI .i64) (tOne tS))).cast rfl rfl
theorem sapi_Step_0 : FldSet tapi_Step 0 (tI .i64) (fun x y => { x with Kind := y }) := (FldSet.map (m := (fun x : api_Step => (x.Kind, x.Label))) (f' := fun x y => { x with Kind := y }) (FldSet.here (tI .i64) (tOne tS)) (fun _ _ => rfl)).cast rfl rfl
theorem fapi_Step_1 : Fld tapi_Step 1 tS (fun x => x.Label) := (Fld.map (m := (fun x : api_Step => (x.Kind, x.Label))) (Fld.next (s := (tI .i64)) (Fld.one tS))).cast rfl rfl
theorem sapi_Step_1 : FldSet tapi_Step 1 tS (fun x y => { x with Label := y }) := (FldSet.map (m := (fun x : api_Step => (x.Kind, x.Label))) (f' := fun x y => { x with Label := y }) (FldSet.next (s := (tI .i64)) (FldSet.one tS)) (fun _ _ => rfl)).cast rfl rfl
def zapi_Step_f (fd : Field) : Nat := if fd.type = 3 then 1 else if fd.type = 9 then 1 else 0
theorem zapi_Step_sz : ∀ fs, Try.prog.underlying 124 = some (.struct fs) → ∀ fd, fd ∈ fs → ∀ w, (sizeOf fd.type).run Try.prog w = .ok (zapi_Step_f fd) w := by
  intro fs h
  rw [Try.underlying124] at h
  cases h
  intro fd hfd w
  simp only [List.mem_toArray, List.mem_cons, List.not_mem_nil, or_false] at hfd
  rcases hfd with rfl | rfl
  · exact Try.sizeOf3 w
  · exact Try.sizeOf9 w

def tapi_Cite : Ty api_Cite := tMap (tP (tI .i64) (tP (tL tapi_Step) (tP tS (tP (tI .i64) (tOne (tI .i64)))))) (fun x : api_Cite => (x.Kind, x.Path, x.To, x.From, x.At))
theorem fapi_Cite_0 : Fld tapi_Cite 0 (tI .i64) (fun x => x.Kind) := (Fld.map (m := (fun x : api_Cite => (x.Kind, x.Path, x.To, x.From, x.At))) (Fld.here (tI .i64) (tP (tL tapi_Step) (tP tS (tP (tI .i64) (tOne (tI .i64))))))).cast rfl rfl
theorem sapi_Cite_0 : FldSet tapi_Cite 0 (tI .i64) (fun x y => { x with Kind := y }) := (FldSet.map (m := (fun x : api_Cite => (x.Kind, x.Path, x.To, x.From, x.At))) (f' := fun x y => { x with Kind := y }) (FldSet.here (tI .i64) (tP (tL tapi_Step) (tP tS (tP (tI .i64) (tOne (tI .i64)))))) (fun _ _ => rfl)).cast rfl rfl
theorem fapi_Cite_1 : Fld tapi_Cite 1 (tL tapi_Step) (fun x => x.Path) := (Fld.map (m := (fun x : api_Cite => (x.Kind, x.Path, x.To, x.From, x.At))) (Fld.next (s := (tI .i64)) (Fld.here (tL tapi_Step) (tP tS (tP (tI .i64) (tOne (tI .i64))))))).cast rfl rfl
theorem sapi_Cite_1 : FldSet tapi_Cite 1 (tL tapi_Step) (fun x y => { x with Path := y }) := (FldSet.map (m := (fun x : api_Cite => (x.Kind, x.Path, x.To, x.From, x.At))) (f' := fun x y => { x with Path := y }) (FldSet.next (s := (tI .i64)) (FldSet.here (tL tapi_Step) (tP tS (tP (tI .i64) (tOne (tI .i64)))))) (fun _ _ => rfl)).cast rfl rfl
theorem fapi_Cite_2 : Fld tapi_Cite 2 tS (fun x => x.To) := (Fld.map (m := (fun x : api_Cite => (x.Kind, x.Path, x.To, x.From, x.At))) (Fld.next (s := (tI .i64)) (Fld.next (s := (tL tapi_Step)) (Fld.here tS (tP (tI .i64) (tOne (tI .i64))))))).cast rfl rfl
theorem sapi_Cite_2 : FldSet tapi_Cite 2 tS (fun x y => { x with To := y }) := (FldSet.map (m := (fun x : api_Cite => (x.Kind, x.Path, x.To, x.From, x.At))) (f' := fun x y => { x with To := y }) (FldSet.next (s := (tI .i64)) (FldSet.next (s := (tL tapi_Step)) (FldSet.here tS (tP (tI .i64) (tOne (tI .i64)))))) (fun _ _ => rfl)).cast rfl rfl
theorem fapi_Cite_3 : Fld tapi_Cite 3 (tI .i64) (fun x => x.From) := (Fld.map (m := (fun x : api_Cite => (x.Kind, x.Path, x.To, x.From, x.At))) (Fld.next (s := (tI .i64)) (Fld.next (s := (tL tapi_Step)) (Fld.next (s := tS) (Fld.here (tI .i64) (tOne (tI .i64))))))).cast rfl rfl
theorem sapi_Cite_3 : FldSet tapi_Cite 3 (tI .i64) (fun x y => { x with From := y }) := (FldSet.map (m := (fun x : api_Cite => (x.Kind, x.Path, x.To, x.From, x.At))) (f' := fun x y => { x with From := y }) (FldSet.next (s := (tI .i64)) (FldSet.next (s := (tL tapi_Step)) (FldSet.next (s := tS) (FldSet.here (tI .i64) (tOne (tI .i64)))))) (fun _ _ => rfl)).cast rfl rfl
theorem fapi_Cite_4 : Fld tapi_Cite 4 (tI .i64) (fun x => x.At) := (Fld.map (m := (fun x : api_Cite => (x.Kind, x.Path, x.To, x.From, x.At))) (Fld.next (s := (tI .i64)) (Fld.next (s := (tL tapi_Step)) (Fld.next (s := tS) (Fld.next (s := (tI .i64)) (Fld.one (tI .i64))))))).cast rfl rfl
theorem sapi_Cite_4 : FldSet tapi_Cite 4 (tI .i64) (fun x y => { x with At := y }) := (FldSet.map (m := (fun x : api_Cite => (x.Kind, x.Path, x.To, x.From, x.At))) (f' := fun x y => { x with At := y }) (FldSet.next (s := (tI .i64)) (FldSet.next (s := (tL tapi_Step)) (FldSet.next (s := tS) (FldSet.next (s := (tI .i64)) (FldSet.one (tI .i64)))))) (fun _ _ => rfl)).cast rfl rfl
def zapi_Cite_f (fd : Field) : Nat := if fd.type = 3 then 1 else if fd.type = 9 then 1 else if fd.type = 94 then 1 else 0
theorem zapi_Cite_sz : ∀ fs, Try.prog.underlying 96 = some (.struct fs) → ∀ fd, fd ∈ fs → ∀ w, (sizeOf fd.type).run Try.prog w = .ok (zapi_Cite_f fd) w := by
  intro fs h
  rw [Try.underlying96] at h
  cases h
  intro fd hfd w
  simp only [List.mem_toArray, List.mem_cons, List.not_mem_nil, or_false] at hfd
  rcases hfd with rfl | rfl | rfl | rfl | rfl
  · exact Try.sizeOf3 w
  · exact Try.sizeOf94 w
  · exact Try.sizeOf9 w
  · exact Try.sizeOf3 w
  · exact Try.sizeOf3 w

def tequivalence_text : Ty equivalence_text := tMap (tP (tL tS) (tP (tM (tI .i64) tapi_Cite) (tOne (tM (tI .i64) (tL tapi_Id))))) (fun x : equivalence_text => (x.words_, x.cites_, x.targets_))
theorem fequivalence_text_0 : Fld tequivalence_text 0 (tL tS) (fun x => x.words_) := (Fld.map (m := (fun x : equivalence_text => (x.words_, x.cites_, x.targets_))) (Fld.here (tL tS) (tP (tM (tI .i64) tapi_Cite) (tOne (tM (tI .i64) (tL tapi_Id)))))).cast rfl rfl
theorem sequivalence_text_0 : FldSet tequivalence_text 0 (tL tS) (fun x y => { x with words_ := y }) := (FldSet.map (m := (fun x : equivalence_text => (x.words_, x.cites_, x.targets_))) (f' := fun x y => { x with words_ := y }) (FldSet.here (tL tS) (tP (tM (tI .i64) tapi_Cite) (tOne (tM (tI .i64) (tL tapi_Id))))) (fun _ _ => rfl)).cast rfl rfl
theorem fequivalence_text_1 : Fld tequivalence_text 1 (tM (tI .i64) tapi_Cite) (fun x => x.cites_) := (Fld.map (m := (fun x : equivalence_text => (x.words_, x.cites_, x.targets_))) (Fld.next (s := (tL tS)) (Fld.here (tM (tI .i64) tapi_Cite) (tOne (tM (tI .i64) (tL tapi_Id)))))).cast rfl rfl
theorem sequivalence_text_1 : FldSet tequivalence_text 1 (tM (tI .i64) tapi_Cite) (fun x y => { x with cites_ := y }) := (FldSet.map (m := (fun x : equivalence_text => (x.words_, x.cites_, x.targets_))) (f' := fun x y => { x with cites_ := y }) (FldSet.next (s := (tL tS)) (FldSet.here (tM (tI .i64) tapi_Cite) (tOne (tM (tI .i64) (tL tapi_Id))))) (fun _ _ => rfl)).cast rfl rfl
theorem fequivalence_text_2 : Fld tequivalence_text 2 (tM (tI .i64) (tL tapi_Id)) (fun x => x.targets_) := (Fld.map (m := (fun x : equivalence_text => (x.words_, x.cites_, x.targets_))) (Fld.next (s := (tL tS)) (Fld.next (s := (tM (tI .i64) tapi_Cite)) (Fld.one (tM (tI .i64) (tL tapi_Id)))))).cast rfl rfl
theorem sequivalence_text_2 : FldSet tequivalence_text 2 (tM (tI .i64) (tL tapi_Id)) (fun x y => { x with targets_ := y }) := (FldSet.map (m := (fun x : equivalence_text => (x.words_, x.cites_, x.targets_))) (f' := fun x y => { x with targets_ := y }) (FldSet.next (s := (tL tS)) (FldSet.next (s := (tM (tI .i64) tapi_Cite)) (FldSet.one (tM (tI .i64) (tL tapi_Id))))) (fun _ _ => rfl)).cast rfl rfl
def zequivalence_text_f (fd : Field) : Nat := if fd.type = 60 then 1 else if fd.type = 88 then 1 else if fd.type = 89 then 1 else 0
theorem zequivalence_text_sz : ∀ fs, Try.prog.underlying 91 = some (.struct fs) → ∀ fd, fd ∈ fs → ∀ w, (sizeOf fd.type).run Try.prog w = .ok (zequivalence_text_f fd) w := by
  intro fs h
  rw [Try.underlying91] at h
  cases h
  intro fd hfd w
  simp only [List.mem_toArray, List.mem_cons, List.not_mem_nil, or_false] at hfd
  rcases hfd with rfl | rfl | rfl
  · exact Try.sizeOf60 w
  · exact Try.sizeOf88 w
  · exact Try.sizeOf89 w

def tcitation_reader : Ty citation_reader := tMap (tP (tL tS) (tP (tI .i64) (tOne tB))) (fun x : citation_reader => (x.l_, x.at_, x.ended_))
theorem fcitation_reader_0 : Fld tcitation_reader 0 (tL tS) (fun x => x.l_) := (Fld.map (m := (fun x : citation_reader => (x.l_, x.at_, x.ended_))) (Fld.here (tL tS) (tP (tI .i64) (tOne tB)))).cast rfl rfl
theorem scitation_reader_0 : FldSet tcitation_reader 0 (tL tS) (fun x y => { x with l_ := y }) := (FldSet.map (m := (fun x : citation_reader => (x.l_, x.at_, x.ended_))) (f' := fun x y => { x with l_ := y }) (FldSet.here (tL tS) (tP (tI .i64) (tOne tB))) (fun _ _ => rfl)).cast rfl rfl
theorem fcitation_reader_1 : Fld tcitation_reader 1 (tI .i64) (fun x => x.at_) := (Fld.map (m := (fun x : citation_reader => (x.l_, x.at_, x.ended_))) (Fld.next (s := (tL tS)) (Fld.here (tI .i64) (tOne tB)))).cast rfl rfl
theorem scitation_reader_1 : FldSet tcitation_reader 1 (tI .i64) (fun x y => { x with at_ := y }) := (FldSet.map (m := (fun x : citation_reader => (x.l_, x.at_, x.ended_))) (f' := fun x y => { x with at_ := y }) (FldSet.next (s := (tL tS)) (FldSet.here (tI .i64) (tOne tB))) (fun _ _ => rfl)).cast rfl rfl
theorem fcitation_reader_2 : Fld tcitation_reader 2 tB (fun x => x.ended_) := (Fld.map (m := (fun x : citation_reader => (x.l_, x.at_, x.ended_))) (Fld.next (s := (tL tS)) (Fld.next (s := (tI .i64)) (Fld.one tB)))).cast rfl rfl
theorem scitation_reader_2 : FldSet tcitation_reader 2 tB (fun x y => { x with ended_ := y }) := (FldSet.map (m := (fun x : citation_reader => (x.l_, x.at_, x.ended_))) (f' := fun x y => { x with ended_ := y }) (FldSet.next (s := (tL tS)) (FldSet.next (s := (tI .i64)) (FldSet.one tB))) (fun _ _ => rfl)).cast rfl rfl
def zcitation_reader_f (fd : Field) : Nat := if fd.type = 3 then 1 else if fd.type = 4 then 1 else if fd.type = 60 then 1 else 0
theorem zcitation_reader_sz : ∀ fs, Try.prog.underlying 117 = some (.struct fs) → ∀ fd, fd ∈ fs → ∀ w, (sizeOf fd.type).run Try.prog w = .ok (zcitation_reader_f fd) w := by
  intro fs h
  rw [Try.underlying117] at h
  cases h
  intro fd hfd w
  simp only [List.mem_toArray, List.mem_cons, List.not_mem_nil, or_false] at hfd
  rcases hfd with rfl | rfl | rfl
  · exact Try.sizeOf60 w
  · exact Try.sizeOf3 w
  · exact Try.sizeOf4 w

def tapi_Cite_k1 (k : Tok) : Ty api_Cite := tMap (tP (tI .i64) (tP (tOT tapi_Step k) (tP tS (tP (tI .i64) (tOne (tI .i64)))))) (fun x : api_Cite => (x.Kind, x.Path, x.To, x.From, x.At))
theorem fapi_Cite_k1_0 (k : Tok) : Fld (tapi_Cite_k1 k) 0 (tI .i64) (fun x => x.Kind) := (Fld.map (m := (fun x : api_Cite => (x.Kind, x.Path, x.To, x.From, x.At))) (Fld.here (tI .i64) (tP (tOT tapi_Step k) (tP tS (tP (tI .i64) (tOne (tI .i64))))))).cast rfl rfl
theorem sapi_Cite_k1_0 (k : Tok) : FldSet (tapi_Cite_k1 k) 0 (tI .i64) (fun x y => { x with Kind := y }) := (FldSet.map (m := (fun x : api_Cite => (x.Kind, x.Path, x.To, x.From, x.At))) (f' := fun x y => { x with Kind := y }) (FldSet.here (tI .i64) (tP (tOT tapi_Step k) (tP tS (tP (tI .i64) (tOne (tI .i64)))))) (fun _ _ => rfl)).cast rfl rfl
theorem fapi_Cite_k1_1 (k : Tok) : Fld (tapi_Cite_k1 k) 1 (tOT tapi_Step k) (fun x => x.Path) := (Fld.map (m := (fun x : api_Cite => (x.Kind, x.Path, x.To, x.From, x.At))) (Fld.next (s := (tI .i64)) (Fld.here (tOT tapi_Step k) (tP tS (tP (tI .i64) (tOne (tI .i64))))))).cast rfl rfl
theorem fapi_Cite_k1_2 (k : Tok) : Fld (tapi_Cite_k1 k) 2 tS (fun x => x.To) := (Fld.map (m := (fun x : api_Cite => (x.Kind, x.Path, x.To, x.From, x.At))) (Fld.next (s := (tI .i64)) (Fld.next (s := (tOT tapi_Step k)) (Fld.here tS (tP (tI .i64) (tOne (tI .i64))))))).cast rfl rfl
theorem sapi_Cite_k1_2 (k : Tok) : FldSet (tapi_Cite_k1 k) 2 tS (fun x y => { x with To := y }) := (FldSet.map (m := (fun x : api_Cite => (x.Kind, x.Path, x.To, x.From, x.At))) (f' := fun x y => { x with To := y }) (FldSet.next (s := (tI .i64)) (FldSet.next (s := (tOT tapi_Step k)) (FldSet.here tS (tP (tI .i64) (tOne (tI .i64)))))) (fun _ _ => rfl)).cast rfl rfl
theorem fapi_Cite_k1_3 (k : Tok) : Fld (tapi_Cite_k1 k) 3 (tI .i64) (fun x => x.From) := (Fld.map (m := (fun x : api_Cite => (x.Kind, x.Path, x.To, x.From, x.At))) (Fld.next (s := (tI .i64)) (Fld.next (s := (tOT tapi_Step k)) (Fld.next (s := tS) (Fld.here (tI .i64) (tOne (tI .i64))))))).cast rfl rfl
theorem sapi_Cite_k1_3 (k : Tok) : FldSet (tapi_Cite_k1 k) 3 (tI .i64) (fun x y => { x with From := y }) := (FldSet.map (m := (fun x : api_Cite => (x.Kind, x.Path, x.To, x.From, x.At))) (f' := fun x y => { x with From := y }) (FldSet.next (s := (tI .i64)) (FldSet.next (s := (tOT tapi_Step k)) (FldSet.next (s := tS) (FldSet.here (tI .i64) (tOne (tI .i64)))))) (fun _ _ => rfl)).cast rfl rfl
theorem fapi_Cite_k1_4 (k : Tok) : Fld (tapi_Cite_k1 k) 4 (tI .i64) (fun x => x.At) := (Fld.map (m := (fun x : api_Cite => (x.Kind, x.Path, x.To, x.From, x.At))) (Fld.next (s := (tI .i64)) (Fld.next (s := (tOT tapi_Step k)) (Fld.next (s := tS) (Fld.next (s := (tI .i64)) (Fld.one (tI .i64))))))).cast rfl rfl
theorem sapi_Cite_k1_4 (k : Tok) : FldSet (tapi_Cite_k1 k) 4 (tI .i64) (fun x y => { x with At := y }) := (FldSet.map (m := (fun x : api_Cite => (x.Kind, x.Path, x.To, x.From, x.At))) (f' := fun x y => { x with At := y }) (FldSet.next (s := (tI .i64)) (FldSet.next (s := (tOT tapi_Step k)) (FldSet.next (s := tS) (FldSet.next (s := (tI .i64)) (FldSet.one (tI .i64)))))) (fun _ _ => rfl)).cast rfl rfl
theorem sTapi_Cite_k1 (k k2 : Tok) : FldSetT (tapi_Cite_k1 k) (tapi_Cite_k1 k2) 1 (tOT tapi_Step k2) (fun x y => { x with Path := y }) := (FldSetT.map (m := (fun x : api_Cite => (x.Kind, x.Path, x.To, x.From, x.At))) (f' := fun x y => { x with Path := y }) (FldSetT.next (s := (tI .i64)) (FldSetT.here (tOT tapi_Step k) (tOT tapi_Step k2) (tP tS (tP (tI .i64) (tOne (tI .i64)))) rfl)) (fun _ _ => rfl)).cast rfl rfl
theorem s0api_Cite_k1 (k2 : Tok) : FldSetT tapi_Cite (tapi_Cite_k1 k2) 1 (tOT tapi_Step k2) (fun x y => { x with Path := y }) := (FldSetT.map (m := (fun x : api_Cite => (x.Kind, x.Path, x.To, x.From, x.At))) (f' := fun x y => { x with Path := y }) (FldSetT.next (s := (tI .i64)) (FldSetT.here (tL tapi_Step) (tOT tapi_Step k2) (tP tS (tP (tI .i64) (tOne (tI .i64)))) rfl)) (fun _ _ => rfl)).cast rfl rfl
theorem leapi_Cite_k1 (k : Tok) : Le (tapi_Cite_k1 k) tapi_Cite := Le.mapT (Le.pair (Le.refl _) (Le.pair (tOT_le _ _) (Le.refl _))) _
theorem zeapi_Cite_k1 : ZeroAt Try.prog 96 (tapi_Cite_k1 none) zapi_Cite := ⟨_, Try.zeroValue96, fun _ => ⟨_, ⟨_, _, rfl, ⟨rfl, inR64.2 ⟨by decide, by decide⟩⟩, ⟨_, _, rfl, ⟨_, rfl, ⟨rfl, Nat.le_refl _, Nat.zero_le _, rfl⟩⟩, ⟨_, _, rfl, ⟨rfl, by decide⟩, ⟨_, _, rfl, ⟨rfl, inR64.2 ⟨by decide, by decide⟩⟩, ⟨rfl, inR64.2 ⟨by decide, by decide⟩⟩⟩⟩⟩⟩, rfl⟩⟩

def tapi_Meaning_k2 (k : Tok) : Ty api_Meaning := tMap (tP tapi_Id (tP (tI .i64) (tOne (tOT tapi_Id k)))) (fun x : api_Meaning => (x.At, x.N, x.To))
theorem fapi_Meaning_k2_0 (k : Tok) : Fld (tapi_Meaning_k2 k) 0 tapi_Id (fun x => x.At) := (Fld.map (m := (fun x : api_Meaning => (x.At, x.N, x.To))) (Fld.here tapi_Id (tP (tI .i64) (tOne (tOT tapi_Id k))))).cast rfl rfl
theorem sapi_Meaning_k2_0 (k : Tok) : FldSet (tapi_Meaning_k2 k) 0 tapi_Id (fun x y => { x with At := y }) := (FldSet.map (m := (fun x : api_Meaning => (x.At, x.N, x.To))) (f' := fun x y => { x with At := y }) (FldSet.here tapi_Id (tP (tI .i64) (tOne (tOT tapi_Id k)))) (fun _ _ => rfl)).cast rfl rfl
theorem fapi_Meaning_k2_1 (k : Tok) : Fld (tapi_Meaning_k2 k) 3 (tI .i64) (fun x => x.N) := (Fld.map (m := (fun x : api_Meaning => (x.At, x.N, x.To))) (Fld.next (s := tapi_Id) (Fld.here (tI .i64) (tOne (tOT tapi_Id k))))).cast rfl rfl
theorem sapi_Meaning_k2_1 (k : Tok) : FldSet (tapi_Meaning_k2 k) 3 (tI .i64) (fun x y => { x with N := y }) := (FldSet.map (m := (fun x : api_Meaning => (x.At, x.N, x.To))) (f' := fun x y => { x with N := y }) (FldSet.next (s := tapi_Id) (FldSet.here (tI .i64) (tOne (tOT tapi_Id k)))) (fun _ _ => rfl)).cast rfl rfl
theorem fapi_Meaning_k2_2 (k : Tok) : Fld (tapi_Meaning_k2 k) 4 (tOT tapi_Id k) (fun x => x.To) := (Fld.map (m := (fun x : api_Meaning => (x.At, x.N, x.To))) (Fld.next (s := tapi_Id) (Fld.next (s := (tI .i64)) (Fld.one (tOT tapi_Id k))))).cast rfl rfl
theorem sTapi_Meaning_k2 (k k2 : Tok) : FldSetT (tapi_Meaning_k2 k) (tapi_Meaning_k2 k2) 4 (tOT tapi_Id k2) (fun x y => { x with To := y }) := (FldSetT.map (m := (fun x : api_Meaning => (x.At, x.N, x.To))) (f' := fun x y => { x with To := y }) (FldSetT.next (s := tapi_Id) (FldSetT.next (s := (tI .i64)) (FldSetT.one (tOT tapi_Id k) (tOT tapi_Id k2) rfl))) (fun _ _ => rfl)).cast rfl rfl
theorem s0api_Meaning_k2 (k2 : Tok) : FldSetT tapi_Meaning (tapi_Meaning_k2 k2) 4 (tOT tapi_Id k2) (fun x y => { x with To := y }) := (FldSetT.map (m := (fun x : api_Meaning => (x.At, x.N, x.To))) (f' := fun x y => { x with To := y }) (FldSetT.next (s := tapi_Id) (FldSetT.next (s := (tI .i64)) (FldSetT.one (tL tapi_Id) (tOT tapi_Id k2) rfl))) (fun _ _ => rfl)).cast rfl rfl
theorem leapi_Meaning_k2 (k : Tok) : Le (tapi_Meaning_k2 k) tapi_Meaning := Le.mapT (Le.pair (Le.refl _) (Le.pair (Le.refl _) (Le.one (tOT_le _ _)))) _
theorem zeapi_Meaning_k2 : ZeroAt Try.prog 44 (tapi_Meaning_k2 none) zapi_Meaning := ⟨_, Try.zeroValue44, fun _ => ⟨_, ⟨_, _, rfl, ⟨_, _, rfl, ⟨rfl, inR64.2 ⟨by decide, by decide⟩⟩, ⟨_, _, rfl, ⟨rfl, inR64.2 ⟨by decide, by decide⟩⟩, ⟨rfl, inR64.2 ⟨by decide, by decide⟩⟩⟩⟩, ⟨_, _, rfl, ⟨rfl, inR64.2 ⟨by decide, by decide⟩⟩, ⟨_, rfl, ⟨rfl, Nat.le_refl _, Nat.zero_le _, rfl⟩⟩⟩⟩, rfl⟩⟩

def tequivalence_text_k0 (k : Tok) : Ty equivalence_text := tMap (tP (tOT tS k) (tP (tM (tI .i64) tapi_Cite) (tOne (tM (tI .i64) (tL tapi_Id))))) (fun x : equivalence_text => (x.words_, x.cites_, x.targets_))
theorem fequivalence_text_k0_0 (k : Tok) : Fld (tequivalence_text_k0 k) 0 (tOT tS k) (fun x => x.words_) := (Fld.map (m := (fun x : equivalence_text => (x.words_, x.cites_, x.targets_))) (Fld.here (tOT tS k) (tP (tM (tI .i64) tapi_Cite) (tOne (tM (tI .i64) (tL tapi_Id)))))).cast rfl rfl
theorem fequivalence_text_k0_1 (k : Tok) : Fld (tequivalence_text_k0 k) 1 (tM (tI .i64) tapi_Cite) (fun x => x.cites_) := (Fld.map (m := (fun x : equivalence_text => (x.words_, x.cites_, x.targets_))) (Fld.next (s := (tOT tS k)) (Fld.here (tM (tI .i64) tapi_Cite) (tOne (tM (tI .i64) (tL tapi_Id)))))).cast rfl rfl
theorem sequivalence_text_k0_1 (k : Tok) : FldSet (tequivalence_text_k0 k) 1 (tM (tI .i64) tapi_Cite) (fun x y => { x with cites_ := y }) := (FldSet.map (m := (fun x : equivalence_text => (x.words_, x.cites_, x.targets_))) (f' := fun x y => { x with cites_ := y }) (FldSet.next (s := (tOT tS k)) (FldSet.here (tM (tI .i64) tapi_Cite) (tOne (tM (tI .i64) (tL tapi_Id))))) (fun _ _ => rfl)).cast rfl rfl
theorem fequivalence_text_k0_2 (k : Tok) : Fld (tequivalence_text_k0 k) 2 (tM (tI .i64) (tL tapi_Id)) (fun x => x.targets_) := (Fld.map (m := (fun x : equivalence_text => (x.words_, x.cites_, x.targets_))) (Fld.next (s := (tOT tS k)) (Fld.next (s := (tM (tI .i64) tapi_Cite)) (Fld.one (tM (tI .i64) (tL tapi_Id)))))).cast rfl rfl
theorem sequivalence_text_k0_2 (k : Tok) : FldSet (tequivalence_text_k0 k) 2 (tM (tI .i64) (tL tapi_Id)) (fun x y => { x with targets_ := y }) := (FldSet.map (m := (fun x : equivalence_text => (x.words_, x.cites_, x.targets_))) (f' := fun x y => { x with targets_ := y }) (FldSet.next (s := (tOT tS k)) (FldSet.next (s := (tM (tI .i64) tapi_Cite)) (FldSet.one (tM (tI .i64) (tL tapi_Id))))) (fun _ _ => rfl)).cast rfl rfl
theorem sTequivalence_text_k0 (k k2 : Tok) : FldSetT (tequivalence_text_k0 k) (tequivalence_text_k0 k2) 0 (tOT tS k2) (fun x y => { x with words_ := y }) := (FldSetT.map (m := (fun x : equivalence_text => (x.words_, x.cites_, x.targets_))) (f' := fun x y => { x with words_ := y }) (FldSetT.here (tOT tS k) (tOT tS k2) (tP (tM (tI .i64) tapi_Cite) (tOne (tM (tI .i64) (tL tapi_Id)))) rfl) (fun _ _ => rfl)).cast rfl rfl
theorem s0equivalence_text_k0 (k2 : Tok) : FldSetT tequivalence_text (tequivalence_text_k0 k2) 0 (tOT tS k2) (fun x y => { x with words_ := y }) := (FldSetT.map (m := (fun x : equivalence_text => (x.words_, x.cites_, x.targets_))) (f' := fun x y => { x with words_ := y }) (FldSetT.here (tL tS) (tOT tS k2) (tP (tM (tI .i64) tapi_Cite) (tOne (tM (tI .i64) (tL tapi_Id)))) rfl) (fun _ _ => rfl)).cast rfl rfl
theorem leequivalence_text_k0 (k : Tok) : Le (tequivalence_text_k0 k) tequivalence_text := Le.mapT (Le.pair (tOT_le _ _) (Le.refl _)) _
theorem zeequivalence_text_k0 : ZeroAt Try.prog 91 (tequivalence_text_k0 none) zequivalence_text := ⟨_, Try.zeroValue91, fun _ => ⟨_, ⟨_, _, rfl, ⟨_, rfl, ⟨rfl, Nat.le_refl _, Nat.zero_le _, rfl⟩⟩, ⟨_, _, rfl, (.inl ⟨rfl, rfl⟩), (.inl ⟨rfl, rfl⟩)⟩⟩, rfl⟩⟩


theorem ty3 : TyAt Try.prog 3 (tI .i64) := ⟨Try.isAgg3, Try.sizeOf3⟩
theorem el3 : ElAt Try.prog 3 (tI .i64) := ⟨⟨Try.t3, _, Try.type3, rfl, rfl, by decide, rfl⟩, by decide⟩
theorem ze3 : ZeroAt Try.prog 3 (tI .i64) (0 : Int) := ⟨_, Try.zeroValue3, fun _ => ⟨_, ⟨rfl, inR64.2 ⟨by decide, by decide⟩⟩, rfl⟩⟩
theorem ty4 : TyAt Try.prog 4 tB := ⟨Try.isAgg4, Try.sizeOf4⟩
theorem el4 : ElAt Try.prog 4 tB := ⟨⟨Try.t4, _, Try.type4, rfl, rfl, by decide, rfl⟩, by decide⟩
theorem ze4 : ZeroAt Try.prog 4 tB false := ⟨_, Try.zeroValue4, fun _ => ⟨_, rfl, rfl⟩⟩
theorem ty9 : TyAt Try.prog 9 tS := ⟨Try.isAgg9, Try.sizeOf9⟩
theorem el9 : ElAt Try.prog 9 tS := ⟨⟨Try.t9, _, Try.type9, rfl, rfl, by decide, rfl⟩, by decide⟩
theorem ze9 : ZeroAt Try.prog 9 tS ([] : Str) := ⟨_, Try.zeroValue9, fun _ => ⟨_, ⟨rfl, by decide⟩, rfl⟩⟩
theorem ty23 : TyAt Try.prog 23 tapi_Id := ⟨Try.isAgg23, Try.sizeOf23⟩
theorem el23 : ElAt Try.prog 23 tapi_Id := ⟨⟨Try.t23, _, Try.type23, rfl, rfl, by decide, rfl⟩, by decide⟩
theorem ze23 : ZeroAt Try.prog 23 tapi_Id zapi_Id := ⟨_, Try.zeroValue23, fun _ => ⟨_, ⟨_, _, rfl, ⟨rfl, inR64.2 ⟨by decide, by decide⟩⟩, ⟨_, _, rfl, ⟨rfl, inR64.2 ⟨by decide, by decide⟩⟩, ⟨rfl, inR64.2 ⟨by decide, by decide⟩⟩⟩⟩, rfl⟩⟩
theorem ty24 : TyAt Try.prog 24 (tL tapi_Word) := ⟨Try.isAgg24, Try.sizeOf24⟩
theorem el24 : ElAt Try.prog 24 (tL tapi_Word) := ⟨⟨Try.t24, _, Try.type24, rfl, rfl, by decide, rfl⟩, by decide⟩
theorem ze24 : ZeroAt Try.prog 24 (tL tapi_Word) ([] : List api_Word) := ⟨_, Try.zeroValue24, fun _ => ⟨_, ⟨none, 0, rfl, Nat.le_refl _, Nat.zero_le _, fun _ => rfl, rfl⟩, rfl⟩⟩
theorem ty25 : TyAt Try.prog 25 (tL tapi_Unit) := ⟨Try.isAgg25, Try.sizeOf25⟩
theorem el25 : ElAt Try.prog 25 (tL tapi_Unit) := ⟨⟨Try.t25, _, Try.type25, rfl, rfl, by decide, rfl⟩, by decide⟩
theorem ze25 : ZeroAt Try.prog 25 (tL tapi_Unit) ([] : List api_Unit) := ⟨_, Try.zeroValue25, fun _ => ⟨_, ⟨none, 0, rfl, Nat.le_refl _, Nat.zero_le _, fun _ => rfl, rfl⟩, rfl⟩⟩
theorem ty27 : TyAt Try.prog 27 tapi_Unit := ⟨Try.isAgg27, Try.sizeOf27⟩
theorem el27 : ElAt Try.prog 27 tapi_Unit := ⟨⟨Try.t27, _, Try.type27, rfl, rfl, by decide, rfl⟩, by decide⟩
theorem ze27 : ZeroAt Try.prog 27 tapi_Unit zapi_Unit := ⟨_, Try.zeroValue27, fun _ => ⟨_, (rapi_Unit.into.rep _ _ _ ⟨_, _, rfl, ⟨_, _, rfl, ⟨rfl, inR64.2 ⟨by decide, by decide⟩⟩, ⟨_, _, rfl, ⟨rfl, inR64.2 ⟨by decide, by decide⟩⟩, ⟨rfl, inR64.2 ⟨by decide, by decide⟩⟩⟩⟩, ⟨_, _, rfl, ⟨rfl, inR64.2 ⟨by decide, by decide⟩⟩, ⟨_, _, rfl, ⟨rfl, by decide⟩, ⟨_, _, rfl, ⟨none, 0, rfl, Nat.le_refl _, Nat.zero_le _, fun _ => rfl, rfl⟩, ⟨_, _, rfl, ⟨none, 0, rfl, Nat.le_refl _, Nat.zero_le _, fun _ => rfl, rfl⟩, ⟨none, 0, rfl, Nat.le_refl _, Nat.zero_le _, fun _ => rfl, rfl⟩⟩⟩⟩⟩⟩), rfl⟩⟩
theorem ty28 : TyAt Try.prog 28 (tL tapi_Meaning) := ⟨Try.isAgg28, Try.sizeOf28⟩
theorem el28 : ElAt Try.prog 28 (tL tapi_Meaning) := ⟨⟨Try.t28, _, Try.type28, rfl, rfl, by decide, rfl⟩, by decide⟩
theorem ze28 : ZeroAt Try.prog 28 (tL tapi_Meaning) ([] : List api_Meaning) := ⟨_, Try.zeroValue28, fun _ => ⟨_, ⟨none, 0, rfl, Nat.le_refl _, Nat.zero_le _, fun _ => rfl, rfl⟩, rfl⟩⟩
theorem ty34 : TyAt Try.prog 34 (tL tapi_Finding) := ⟨Try.isAgg34, Try.sizeOf34⟩
theorem el34 : ElAt Try.prog 34 (tL tapi_Finding) := ⟨⟨Try.t34, _, Try.type34, rfl, rfl, by decide, rfl⟩, by decide⟩
theorem ze34 : ZeroAt Try.prog 34 (tL tapi_Finding) ([] : List api_Finding) := ⟨_, Try.zeroValue34, fun _ => ⟨_, ⟨none, 0, rfl, Nat.le_refl _, Nat.zero_le _, fun _ => rfl, rfl⟩, rfl⟩⟩
theorem ty36 : TyAt Try.prog 36 (tL tapi_Id) := ⟨Try.isAgg36, Try.sizeOf36⟩
theorem el36 : ElAt Try.prog 36 (tL tapi_Id) := ⟨⟨Try.t36, _, Try.type36, rfl, rfl, by decide, rfl⟩, by decide⟩
theorem ze36 : ZeroAt Try.prog 36 (tL tapi_Id) ([] : List api_Id) := ⟨_, Try.zeroValue36, fun _ => ⟨_, ⟨none, 0, rfl, Nat.le_refl _, Nat.zero_le _, fun _ => rfl, rfl⟩, rfl⟩⟩
theorem ty44 : TyAt Try.prog 44 tapi_Meaning := ⟨Try.isAgg44, Try.sizeOf44⟩
theorem el44 : ElAt Try.prog 44 tapi_Meaning := ⟨⟨Try.t44, _, Try.type44, rfl, rfl, by decide, rfl⟩, by decide⟩
theorem ze44 : ZeroAt Try.prog 44 tapi_Meaning zapi_Meaning := ⟨_, Try.zeroValue44, fun _ => ⟨_, ⟨_, _, rfl, ⟨_, _, rfl, ⟨rfl, inR64.2 ⟨by decide, by decide⟩⟩, ⟨_, _, rfl, ⟨rfl, inR64.2 ⟨by decide, by decide⟩⟩, ⟨rfl, inR64.2 ⟨by decide, by decide⟩⟩⟩⟩, ⟨_, _, rfl, ⟨rfl, inR64.2 ⟨by decide, by decide⟩⟩, ⟨none, 0, rfl, Nat.le_refl _, Nat.zero_le _, fun _ => rfl, rfl⟩⟩⟩, rfl⟩⟩
theorem ty47 : TyAt Try.prog 47 tapi_Mark := ⟨Try.isAgg47, Try.sizeOf47⟩
theorem el47 : ElAt Try.prog 47 tapi_Mark := ⟨⟨Try.t47, _, Try.type47, rfl, rfl, by decide, rfl⟩, by decide⟩
theorem ze47 : ZeroAt Try.prog 47 tapi_Mark zapi_Mark := ⟨_, Try.zeroValue47, fun _ => ⟨_, ⟨_, _, rfl, ⟨rfl, inR64.2 ⟨by decide, by decide⟩⟩, ⟨_, _, rfl, ⟨rfl, inR64.2 ⟨by decide, by decide⟩⟩, ⟨rfl, inR64.2 ⟨by decide, by decide⟩⟩⟩⟩, rfl⟩⟩
theorem ty49 : TyAt Try.prog 49 tapi_Word := ⟨Try.isAgg49, Try.sizeOf49⟩
theorem el49 : ElAt Try.prog 49 tapi_Word := ⟨⟨Try.t49, _, Try.type49, rfl, rfl, by decide, rfl⟩, by decide⟩
theorem ze49 : ZeroAt Try.prog 49 tapi_Word zapi_Word := ⟨_, Try.zeroValue49, fun _ => ⟨_, ⟨_, _, rfl, ⟨rfl, by decide⟩, ⟨_, _, rfl, ⟨rfl, inR64.2 ⟨by decide, by decide⟩⟩, ⟨_, _, rfl, ⟨rfl, inR64.2 ⟨by decide, by decide⟩⟩, ⟨rfl, inR64.2 ⟨by decide, by decide⟩⟩⟩⟩⟩, rfl⟩⟩
theorem ty51 : TyAt Try.prog 51 (tI .i64) := ⟨Try.isAgg51, Try.sizeOf51⟩
theorem el51 : ElAt Try.prog 51 (tI .i64) := ⟨⟨Try.t51, _, Try.type51, rfl, rfl, by decide, rfl⟩, by decide⟩
theorem ze51 : ZeroAt Try.prog 51 (tI .i64) (0 : Int) := ⟨_, Try.zeroValue51, fun _ => ⟨_, ⟨rfl, inR64.2 ⟨by decide, by decide⟩⟩, rfl⟩⟩
theorem ty53 : TyAt Try.prog 53 tapi_Finding := ⟨Try.isAgg53, Try.sizeOf53⟩
theorem el53 : ElAt Try.prog 53 tapi_Finding := ⟨⟨Try.t53, _, Try.type53, rfl, rfl, by decide, rfl⟩, by decide⟩
theorem ze53 : ZeroAt Try.prog 53 tapi_Finding zapi_Finding := ⟨_, Try.zeroValue53, fun _ => ⟨_, ⟨_, _, rfl, ⟨rfl, inR64.2 ⟨by decide, by decide⟩⟩, ⟨_, _, rfl, ⟨_, _, rfl, ⟨rfl, inR64.2 ⟨by decide, by decide⟩⟩, ⟨_, _, rfl, ⟨rfl, inR64.2 ⟨by decide, by decide⟩⟩, ⟨rfl, inR64.2 ⟨by decide, by decide⟩⟩⟩⟩, ⟨_, _, rfl, ⟨rfl, inR64.2 ⟨by decide, by decide⟩⟩, ⟨rfl, by decide⟩⟩⟩⟩, rfl⟩⟩
theorem ty56 : TyAt Try.prog 56 tapi_Destination := ⟨Try.isAgg56, Try.sizeOf56⟩
theorem el56 : ElAt Try.prog 56 tapi_Destination := ⟨⟨Try.t56, _, Try.type56, rfl, rfl, by decide, rfl⟩, by decide⟩
theorem ze56 : ZeroAt Try.prog 56 tapi_Destination zapi_Destination := ⟨_, Try.zeroValue56, fun _ => ⟨_, ⟨_, _, rfl, ⟨_, _, rfl, ⟨rfl, inR64.2 ⟨by decide, by decide⟩⟩, ⟨_, _, rfl, ⟨rfl, inR64.2 ⟨by decide, by decide⟩⟩, ⟨rfl, inR64.2 ⟨by decide, by decide⟩⟩⟩⟩, ⟨_, _, rfl, ⟨rfl, inR64.2 ⟨by decide, by decide⟩⟩, ⟨_, _, rfl, ⟨rfl, inR64.2 ⟨by decide, by decide⟩⟩, ⟨rfl, inR64.2 ⟨by decide, by decide⟩⟩⟩⟩⟩, rfl⟩⟩
theorem ty60 : TyAt Try.prog 60 (tL tS) := ⟨Try.isAgg60, Try.sizeOf60⟩
theorem el60 : ElAt Try.prog 60 (tL tS) := ⟨⟨Try.t60, _, Try.type60, rfl, rfl, by decide, rfl⟩, by decide⟩
theorem ze60 : ZeroAt Try.prog 60 (tL tS) ([] : List Str) := ⟨_, Try.zeroValue60, fun _ => ⟨_, ⟨none, 0, rfl, Nat.le_refl _, Nat.zero_le _, fun _ => rfl, rfl⟩, rfl⟩⟩
theorem ty63 : TyAt Try.prog 63 (tPt tequivalence_table) := ⟨Try.isAgg63, Try.sizeOf63⟩
theorem el63 : ElAt Try.prog 63 (tPt tequivalence_table) := ⟨⟨Try.t63, _, Try.type63, rfl, rfl, by decide, rfl⟩, by decide⟩
theorem ty74 : TyAt Try.prog 74 (tM tapi_Id (tL tapi_Id)) := ⟨Try.isAgg74, Try.sizeOf74⟩
theorem el74 : ElAt Try.prog 74 (tM tapi_Id (tL tapi_Id)) := ⟨⟨Try.t74, _, Try.type74, rfl, rfl, by decide, rfl⟩, by decide⟩
theorem ze74 : ZeroAt Try.prog 74 (tM tapi_Id (tL tapi_Id)) ([] : List (api_Id × (List api_Id))) := ⟨_, Try.zeroValue74, fun _ => ⟨_, (.inl ⟨rfl, rfl⟩), rfl⟩⟩
theorem ty76 : TyAt Try.prog 76 tequivalence_table := ⟨Try.isAgg76, Try.sizeOf76⟩
theorem el76 : ElAt Try.prog 76 tequivalence_table := ⟨⟨Try.t76, _, Try.type76, rfl, rfl, by decide, rfl⟩, by decide⟩
theorem ze76 : ZeroAt Try.prog 76 tequivalence_table zequivalence_table := ⟨_, Try.zeroValue76, fun _ => ⟨_, ⟨_, _, rfl, (rapi_Unit.into.rep _ _ _ ⟨_, _, rfl, ⟨_, _, rfl, ⟨rfl, inR64.2 ⟨by decide, by decide⟩⟩, ⟨_, _, rfl, ⟨rfl, inR64.2 ⟨by decide, by decide⟩⟩, ⟨rfl, inR64.2 ⟨by decide, by decide⟩⟩⟩⟩, ⟨_, _, rfl, ⟨rfl, inR64.2 ⟨by decide, by decide⟩⟩, ⟨_, _, rfl, ⟨rfl, by decide⟩, ⟨_, _, rfl, ⟨none, 0, rfl, Nat.le_refl _, Nat.zero_le _, fun _ => rfl, rfl⟩, ⟨_, _, rfl, ⟨none, 0, rfl, Nat.le_refl _, Nat.zero_le _, fun _ => rfl, rfl⟩, ⟨none, 0, rfl, Nat.le_refl _, Nat.zero_le _, fun _ => rfl, rfl⟩⟩⟩⟩⟩⟩), ⟨_, _, rfl, (rapi_Unit.into.rep _ _ _ ⟨_, _, rfl, ⟨_, _, rfl, ⟨rfl, inR64.2 ⟨by decide, by decide⟩⟩, ⟨_, _, rfl, ⟨rfl, inR64.2 ⟨by decide, by decide⟩⟩, ⟨rfl, inR64.2 ⟨by decide, by decide⟩⟩⟩⟩, ⟨_, _, rfl, ⟨rfl, inR64.2 ⟨by decide, by decide⟩⟩, ⟨_, _, rfl, ⟨rfl, by decide⟩, ⟨_, _, rfl, ⟨none, 0, rfl, Nat.le_refl _, Nat.zero_le _, fun _ => rfl, rfl⟩, ⟨_, _, rfl, ⟨none, 0, rfl, Nat.le_refl _, Nat.zero_le _, fun _ => rfl, rfl⟩, ⟨none, 0, rfl, Nat.le_refl _, Nat.zero_le _, fun _ => rfl, rfl⟩⟩⟩⟩⟩⟩), ⟨_, _, rfl, (.inl ⟨rfl, rfl⟩), (.inl ⟨rfl, rfl⟩)⟩⟩⟩, rfl⟩⟩
theorem ty88 : TyAt Try.prog 88 (tM (tI .i64) tapi_Cite) := ⟨Try.isAgg88, Try.sizeOf88⟩
theorem el88 : ElAt Try.prog 88 (tM (tI .i64) tapi_Cite) := ⟨⟨Try.t88, _, Try.type88, rfl, rfl, by decide, rfl⟩, by decide⟩
theorem ze88 : ZeroAt Try.prog 88 (tM (tI .i64) tapi_Cite) ([] : List (Int × api_Cite)) := ⟨_, Try.zeroValue88, fun _ => ⟨_, (.inl ⟨rfl, rfl⟩), rfl⟩⟩
theorem ty89 : TyAt Try.prog 89 (tM (tI .i64) (tL tapi_Id)) := ⟨Try.isAgg89, Try.sizeOf89⟩
theorem el89 : ElAt Try.prog 89 (tM (tI .i64) (tL tapi_Id)) := ⟨⟨Try.t89, _, Try.type89, rfl, rfl, by decide, rfl⟩, by decide⟩
theorem ze89 : ZeroAt Try.prog 89 (tM (tI .i64) (tL tapi_Id)) ([] : List (Int × (List api_Id))) := ⟨_, Try.zeroValue89, fun _ => ⟨_, (.inl ⟨rfl, rfl⟩), rfl⟩⟩
theorem ty91 : TyAt Try.prog 91 tequivalence_text := ⟨Try.isAgg91, Try.sizeOf91⟩
theorem el91 : ElAt Try.prog 91 tequivalence_text := ⟨⟨Try.t91, _, Try.type91, rfl, rfl, by decide, rfl⟩, by decide⟩
theorem ze91 : ZeroAt Try.prog 91 tequivalence_text zequivalence_text := ⟨_, Try.zeroValue91, fun _ => ⟨_, ⟨_, _, rfl, ⟨none, 0, rfl, Nat.le_refl _, Nat.zero_le _, fun _ => rfl, rfl⟩, ⟨_, _, rfl, (.inl ⟨rfl, rfl⟩), (.inl ⟨rfl, rfl⟩)⟩⟩, rfl⟩⟩
theorem ty94 : TyAt Try.prog 94 (tL tapi_Step) := ⟨Try.isAgg94, Try.sizeOf94⟩
theorem el94 : ElAt Try.prog 94 (tL tapi_Step) := ⟨⟨Try.t94, _, Try.type94, rfl, rfl, by decide, rfl⟩, by decide⟩
theorem ze94 : ZeroAt Try.prog 94 (tL tapi_Step) ([] : List api_Step) := ⟨_, Try.zeroValue94, fun _ => ⟨_, ⟨none, 0, rfl, Nat.le_refl _, Nat.zero_le _, fun _ => rfl, rfl⟩, rfl⟩⟩
theorem ty96 : TyAt Try.prog 96 tapi_Cite := ⟨Try.isAgg96, Try.sizeOf96⟩
theorem el96 : ElAt Try.prog 96 tapi_Cite := ⟨⟨Try.t96, _, Try.type96, rfl, rfl, by decide, rfl⟩, by decide⟩
theorem ze96 : ZeroAt Try.prog 96 tapi_Cite zapi_Cite := ⟨_, Try.zeroValue96, fun _ => ⟨_, ⟨_, _, rfl, ⟨rfl, inR64.2 ⟨by decide, by decide⟩⟩, ⟨_, _, rfl, ⟨none, 0, rfl, Nat.le_refl _, Nat.zero_le _, fun _ => rfl, rfl⟩, ⟨_, _, rfl, ⟨rfl, by decide⟩, ⟨_, _, rfl, ⟨rfl, inR64.2 ⟨by decide, by decide⟩⟩, ⟨rfl, inR64.2 ⟨by decide, by decide⟩⟩⟩⟩⟩⟩, rfl⟩⟩
theorem ty114 : TyAt Try.prog 114 (tFnR Try.prog tcitation_reader 117 (fun y : api_Cite => (tapi_Cite.is y))) := ⟨Try.isAgg114, Try.sizeOf114⟩
theorem el114 : ElAt Try.prog 114 (tFnR Try.prog tcitation_reader 117 (fun y : api_Cite => (tapi_Cite.is y))) := ⟨⟨Try.t114, _, Try.type114, rfl, rfl, by decide, rfl⟩, by decide⟩
theorem ze114 : ZeroAt Try.prog 114 (tFnR Try.prog tcitation_reader 117 (fun y : api_Cite => (tapi_Cite.is y))) (fun _ => none : citation_reader → Option (api_Cite × citation_reader)) := ⟨_, Try.zeroValue114, fun _ => ⟨_, ⟨_, rfl, .inr ⟨rfl, fun _ => rfl⟩⟩, rfl⟩⟩
theorem ty117 : TyAt Try.prog 117 tcitation_reader := ⟨Try.isAgg117, Try.sizeOf117⟩
theorem el117 : ElAt Try.prog 117 tcitation_reader := ⟨⟨Try.t117, _, Try.type117, rfl, rfl, by decide, rfl⟩, by decide⟩
theorem ze117 : ZeroAt Try.prog 117 tcitation_reader zcitation_reader := ⟨_, Try.zeroValue117, fun _ => ⟨_, ⟨_, _, rfl, ⟨none, 0, rfl, Nat.le_refl _, Nat.zero_le _, fun _ => rfl, rfl⟩, ⟨_, _, rfl, ⟨rfl, inR64.2 ⟨by decide, by decide⟩⟩, rfl⟩⟩, rfl⟩⟩
theorem ty124 : TyAt Try.prog 124 tapi_Step := ⟨Try.isAgg124, Try.sizeOf124⟩
theorem el124 : ElAt Try.prog 124 tapi_Step := ⟨⟨Try.t124, _, Try.type124, rfl, rfl, by decide, rfl⟩, by decide⟩
theorem ze124 : ZeroAt Try.prog 124 tapi_Step zapi_Step := ⟨_, Try.zeroValue124, fun _ => ⟨_, ⟨_, _, rfl, ⟨rfl, inR64.2 ⟨by decide, by decide⟩⟩, ⟨rfl, by decide⟩⟩, rfl⟩⟩
theorem eq23 : EqT (α := api_Id) (P := Try.prog) (T := 23) (t := tapi_Id) (D := 2) := EqT.struct (D := 1) rfl Try.underlying23 (by kernel_rfl) ⟨_, inferInstance, _, _, _, by decide, ty3, fapi_Id_0, ((EqT.int Try.underlying3).up (by decide)), ⟨_, inferInstance, _, _, _, by decide, ty3, fapi_Id_1, ((EqT.int Try.underlying3).up (by decide)), ⟨_, inferInstance, _, _, _, by decide, ty3, fapi_Id_2, ((EqT.int Try.underlying3).up (by decide)), rfl, rfl⟩, rfl⟩, rfl⟩ (fun x y => by cases x; cases y; simp)
theorem eg23 : Try.prog.eqGuardType Try.prog.depth 23 = false := by kernel_rfl
theorem eq53 : EqT (α := api_Finding) (P := Try.prog) (T := 53) (t := tapi_Finding) (D := 3) := EqT.struct (D := 2) rfl Try.underlying53 (by kernel_rfl) ⟨_, inferInstance, _, _, _, by decide, ty3, fapi_Finding_0, ((EqT.int Try.underlying3).up (by decide)), ⟨_, inferInstance, _, _, _, by decide, ty23, fapi_Finding_1, ((eq23).up (by decide)), ⟨_, inferInstance, _, _, _, by decide, ty51, fapi_Finding_2, ((EqT.int Try.underlying51).up (by decide)), ⟨_, inferInstance, _, _, _, by decide, ty9, fapi_Finding_3, ((EqT.string Try.underlying9).up (by decide)), rfl, rfl⟩, rfl⟩, rfl⟩, rfl⟩ (fun x y => by cases x; cases y; simp)
theorem eg53 : Try.prog.eqGuardType Try.prog.depth 53 = false := by kernel_rfl
theorem eq124 : EqT (α := api_Step) (P := Try.prog) (T := 124) (t := tapi_Step) (D := 2) := EqT.struct (D := 1) rfl Try.underlying124 (by kernel_rfl) ⟨_, inferInstance, _, _, _, by decide, ty3, fapi_Step_0, ((EqT.int Try.underlying3).up (by decide)), ⟨_, inferInstance, _, _, _, by decide, ty9, fapi_Step_1, ((EqT.string Try.underlying9).up (by decide)), rfl, rfl⟩, rfl⟩ (fun x y => by cases x; cases y; simp)
theorem eg124 : Try.prog.eqGuardType Try.prog.depth 124 = false := by kernel_rfl
theorem kt3 : KeyT Try.prog 3 (tI .i64) := KeyT.int Try.underlying3
theorem kt23 : KeyT Try.prog 23 tapi_Id := KeyT.struct eq23 (by decide) rfl Try.underlying23 ⟨⟨_, _, _, ty3, fapi_Id_0, (fun h e w => ck_int Try.underlying3 9998 h e w)⟩, ⟨⟨_, _, _, ty3, fapi_Id_1, (fun h e w => ck_int Try.underlying3 9998 h e w)⟩, ⟨⟨_, _, _, ty3, fapi_Id_2, (fun h e w => ck_int Try.underlying3 9998 h e w)⟩, trivial⟩⟩⟩
abbrev I6 : Ty Int := tI .i64
theorem Mx : Try.prog.follows .mixedOrders = true := Try.mixed
theorem C7 (xs : Array Value) (w : World) : (callFunc 7 xs).run Try.prog w = .ok (.enter 7 xs) w := Try.call7 xs w
theorem C8 (xs : Array Value) (w : World) : (callFunc 8 xs).run Try.prog w = .ok (.enter 8 xs) w := Try.call8 xs w
theorem C9 (xs : Array Value) (w : World) : (callFunc 9 xs).run Try.prog w = .ok (.enter 9 xs) w := Try.call9 xs w
theorem C10 (xs : Array Value) (w : World) : (callFunc 10 xs).run Try.prog w = .ok (.enter 10 xs) w := Try.call10 xs w
theorem C11 (xs : Array Value) (w : World) : (callFunc 11 xs).run Try.prog w = .ok (.enter 11 xs) w := Try.call11 xs w
theorem C12 (xs : Array Value) (w : World) : (callFunc 12 xs).run Try.prog w = .ok (.enter 12 xs) w := Try.call12 xs w
theorem C13 (xs : Array Value) (w : World) : (callFunc 13 xs).run Try.prog w = .ok (.enter 13 xs) w := Try.call13 xs w
theorem C14 (xs : Array Value) (w : World) : (callFunc 14 xs).run Try.prog w = .ok (.enter 14 xs) w := Try.call14 xs w
theorem C15 (xs : Array Value) (w : World) : (callFunc 15 xs).run Try.prog w = .ok (.enter 15 xs) w := Try.call15 xs w
theorem C16 (xs : Array Value) (w : World) : (callFunc 16 xs).run Try.prog w = .ok (.enter 16 xs) w := Try.call16 xs w
theorem C17 (xs : Array Value) (w : World) : (callFunc 17 xs).run Try.prog w = .ok (.enter 17 xs) w := Try.call17 xs w
theorem C18 (xs : Array Value) (w : World) : (callFunc 18 xs).run Try.prog w = .ok (.enter 18 xs) w := Try.call18 xs w
theorem C19 (xs : Array Value) (w : World) : (callFunc 19 xs).run Try.prog w = .ok (.enter 19 xs) w := Try.call19 xs w
theorem C20 (xs : Array Value) (w : World) : (callFunc 20 xs).run Try.prog w = .ok (.enter 20 xs) w := Try.call20 xs w
theorem C21 (xs : Array Value) (w : World) : (callFunc 21 xs).run Try.prog w = .ok (.enter 21 xs) w := Try.call21 xs w
theorem C22 (xs : Array Value) (w : World) : (callFunc 22 xs).run Try.prog w = .ok (.enter 22 xs) w := Try.call22 xs w
theorem C23 (xs : Array Value) (w : World) : (callFunc 23 xs).run Try.prog w = .ok (.enter 23 xs) w := Try.call23 xs w
theorem C24 (xs : Array Value) (w : World) : (callFunc 24 xs).run Try.prog w = .ok (.enter 24 xs) w := Try.call24 xs w
theorem C25 (xs : Array Value) (w : World) : (callFunc 25 xs).run Try.prog w = .ok (.enter 25 xs) w := Try.call25 xs w
theorem C26 (xs : Array Value) (w : World) : (callFunc 26 xs).run Try.prog w = .ok (.enter 26 xs) w := Try.call26 xs w
theorem C27 (xs : Array Value) (w : World) : (callFunc 27 xs).run Try.prog w = .ok (.enter 27 xs) w := Try.call27 xs w
theorem C28 (xs : Array Value) (w : World) : (callFunc 28 xs).run Try.prog w = .ok (.enter 28 xs) w := Try.call28 xs w
theorem C29 (xs : Array Value) (w : World) : (callFunc 29 xs).run Try.prog w = .ok (.enter 29 xs) w := Try.call29 xs w
theorem C30 (xs : Array Value) (w : World) : (callFunc 30 xs).run Try.prog w = .ok (.enter 30 xs) w := Try.call30 xs w
theorem C31 (xs : Array Value) (w : World) : (callFunc 31 xs).run Try.prog w = .ok (.enter 31 xs) w := Try.call31 xs w
theorem C32 (xs : Array Value) (w : World) : (callFunc 32 xs).run Try.prog w = .ok (.enter 32 xs) w := Try.call32 xs w
theorem C33 (xs : Array Value) (w : World) : (callFunc 33 xs).run Try.prog w = .ok (.enter 33 xs) w := Try.call33 xs w
theorem C34 (xs : Array Value) (w : World) : (callFunc 34 xs).run Try.prog w = .ok (.enter 34 xs) w := Try.call34 xs w
theorem C35 (xs : Array Value) (w : World) : (callFunc 35 xs).run Try.prog w = .ok (.enter 35 xs) w := Try.call35 xs w
theorem C36 (xs : Array Value) (w : World) : (callFunc 36 xs).run Try.prog w = .ok (.enter 36 xs) w := Try.call36 xs w
theorem C37 (xs : Array Value) (w : World) : (callFunc 37 xs).run Try.prog w = .ok (.enter 37 xs) w := Try.call37 xs w
theorem C38 (xs : Array Value) (w : World) : (callFunc 38 xs).run Try.prog w = .ok (.enter 38 xs) w := Try.call38 xs w
theorem C39 (xs : Array Value) (w : World) : (callFunc 39 xs).run Try.prog w = .ok (.enter 39 xs) w := Try.call39 xs w
theorem C40 (xs : Array Value) (w : World) : (callFunc 40 xs).run Try.prog w = .ok (.enter 40 xs) w := Try.call40 xs w
theorem C41 (xs : Array Value) (w : World) : (callFunc 41 xs).run Try.prog w = .ok (.enter 41 xs) w := Try.call41 xs w
theorem C42 (xs : Array Value) (w : World) : (callFunc 42 xs).run Try.prog w = .ok (.enter 42 xs) w := Try.call42 xs w
theorem C43 (xs : Array Value) (w : World) : (callFunc 43 xs).run Try.prog w = .ok (.enter 43 xs) w := Try.call43 xs w
theorem C44 (xs : Array Value) (w : World) : (callFunc 44 xs).run Try.prog w = .ok (.enter 44 xs) w := Try.call44 xs w
theorem C45 (xs : Array Value) (w : World) : (callFunc 45 xs).run Try.prog w = .ok (.enter 45 xs) w := Try.call45 xs w
theorem C46 (xs : Array Value) (w : World) : (callFunc 46 xs).run Try.prog w = .ok (.enter 46 xs) w := Try.call46 xs w
theorem C47 (xs : Array Value) (w : World) : (callFunc 47 xs).run Try.prog w = .ok (.enter 47 xs) w := Try.call47 xs w
theorem C48 (xs : Array Value) (w : World) : (callFunc 48 xs).run Try.prog w = .ok (.enter 48 xs) w := Try.call48 xs w
theorem C49 (xs : Array Value) (w : World) : (callFunc 49 xs).run Try.prog w = .ok (.enter 49 xs) w := Try.call49 xs w
theorem C50 (xs : Array Value) (w : World) : (callFunc 50 xs).run Try.prog w = .ok (.enter 50 xs) w := Try.call50 xs w
theorem C51 (xs : Array Value) (w : World) : (callFunc 51 xs).run Try.prog w = .ok (.enter 51 xs) w := Try.call51 xs w
theorem C52 (xs : Array Value) (w : World) : (callFunc 52 xs).run Try.prog w = .ok (.enter 52 xs) w := Try.call52 xs w
theorem C53 (xs : Array Value) (w : World) : (callFunc 53 xs).run Try.prog w = .ok (.enter 53 xs) w := Try.call53 xs w
theorem C54 (xs : Array Value) (w : World) : (callFunc 54 xs).run Try.prog w = .ok (.enter 54 xs) w := Try.call54 xs w
theorem C55 (xs : Array Value) (w : World) : (callFunc 55 xs).run Try.prog w = .ok (.enter 55 xs) w := Try.call55 xs w
theorem C57 (xs : Array Value) (w : World) : (callFunc 57 xs).run Try.prog w = .ok (.enter 57 xs) w := Try.call57 xs w
theorem C58 (xs : Array Value) (w : World) : (callFunc 58 xs).run Try.prog w = .ok (.enter 58 xs) w := Try.call58 xs w
theorem C60 (xs : Array Value) (w : World) : (callFunc 60 xs).run Try.prog w = .ok (.enter 60 xs) w := Try.call60 xs w
theorem C61 (xs : Array Value) (w : World) : (callFunc 61 xs).run Try.prog w = .ok (.enter 61 xs) w := Try.call61 xs w
theorem C62 (xs : Array Value) (w : World) : (callFunc 62 xs).run Try.prog w = .ok (.enter 62 xs) w := Try.call62 xs w
theorem C63 (xs : Array Value) (w : World) : (callFunc 63 xs).run Try.prog w = .ok (.enter 63 xs) w := Try.call63 xs w
theorem C64 (xs : Array Value) (w : World) : (callFunc 64 xs).run Try.prog w = .ok (.enter 64 xs) w := Try.call64 xs w
theorem C65 (xs : Array Value) (w : World) : (callFunc 65 xs).run Try.prog w = .ok (.enter 65 xs) w := Try.call65 xs w
theorem C66 (xs : Array Value) (w : World) : (callFunc 66 xs).run Try.prog w = .ok (.enter 66 xs) w := Try.call66 xs w
theorem C67 (xs : Array Value) (w : World) : (callFunc 67 xs).run Try.prog w = .ok (.enter 67 xs) w := Try.call67 xs w
theorem C68 (xs : Array Value) (w : World) : (callFunc 68 xs).run Try.prog w = .ok (.enter 68 xs) w := Try.call68 xs w
theorem C69 (xs : Array Value) (w : World) : (callFunc 69 xs).run Try.prog w = .ok (.enter 69 xs) w := Try.call69 xs w
theorem C70 (xs : Array Value) (w : World) : (callFunc 70 xs).run Try.prog w = .ok (.enter 70 xs) w := Try.call70 xs w
theorem C75 (xs : Array Value) (w : World) : (callFunc 75 xs).run Try.prog w = .ok (.enter 75 xs) w := Try.call75 xs w
theorem C76 (xs : Array Value) (w : World) : (callFunc 76 xs).run Try.prog w = .ok (.enter 76 xs) w := Try.call76 xs w
theorem C77 (xs : Array Value) (w : World) : (callFunc 77 xs).run Try.prog w = .ok (.enter 77 xs) w := Try.call77 xs w
theorem C78 (xs : Array Value) (w : World) : (callFunc 78 xs).run Try.prog w = .ok (.enter 78 xs) w := Try.call78 xs w
theorem C79 (xs : Array Value) (w : World) : (callFunc 79 xs).run Try.prog w = .ok (.enter 79 xs) w := Try.call79 xs w
theorem C80 (xs : Array Value) (w : World) : (callFunc 80 xs).run Try.prog w = .ok (.enter 80 xs) w := Try.call80 xs w
theorem C81 (xs : Array Value) (w : World) : (callFunc 81 xs).run Try.prog w = .ok (.enter 81 xs) w := Try.call81 xs w
theorem C82 (xs : Array Value) (w : World) : (callFunc 82 xs).run Try.prog w = .ok (.enter 82 xs) w := Try.call82 xs w
theorem C83 (xs : Array Value) (w : World) : (callFunc 83 xs).run Try.prog w = .ok (.enter 83 xs) w := Try.call83 xs w
theorem C84 (xs : Array Value) (w : World) : (callFunc 84 xs).run Try.prog w = .ok (.enter 84 xs) w := Try.call84 xs w
theorem C85 (xs : Array Value) (w : World) : (callFunc 85 xs).run Try.prog w = .ok (.enter 85 xs) w := Try.call85 xs w
theorem C86 (xs : Array Value) (w : World) : (callFunc 86 xs).run Try.prog w = .ok (.enter 86 xs) w := Try.call86 xs w
theorem C87 (xs : Array Value) (w : World) : (callFunc 87 xs).run Try.prog w = .ok (.enter 87 xs) w := Try.call87 xs w
theorem C88 (xs : Array Value) (w : World) : (callFunc 88 xs).run Try.prog w = .ok (.enter 88 xs) w := Try.call88 xs w
theorem C89 (xs : Array Value) (w : World) : (callFunc 89 xs).run Try.prog w = .ok (.enter 89 xs) w := Try.call89 xs w
theorem C92 (xs : Array Value) (w : World) : (callFunc 92 xs).run Try.prog w = .ok (.enter 92 xs) w := Try.call92 xs w
theorem C93 (xs : Array Value) (w : World) : (callFunc 93 xs).run Try.prog w = .ok (.enter 93 xs) w := Try.call93 xs w
theorem C94 (xs : Array Value) (w : World) : (callFunc 94 xs).run Try.prog w = .ok (.enter 94 xs) w := Try.call94 xs w
theorem C95 (xs : Array Value) (w : World) : (callFunc 95 xs).run Try.prog w = .ok (.enter 95 xs) w := Try.call95 xs w
theorem C96 (xs : Array Value) (w : World) : (callFunc 96 xs).run Try.prog w = .ok (.enter 96 xs) w := Try.call96 xs w
theorem C97 (xs : Array Value) (w : World) : (callFunc 97 xs).run Try.prog w = .ok (.enter 97 xs) w := Try.call97 xs w
theorem C98 (xs : Array Value) (w : World) : (callFunc 98 xs).run Try.prog w = .ok (.enter 98 xs) w := Try.call98 xs w
theorem C99 (xs : Array Value) (w : World) : (callFunc 99 xs).run Try.prog w = .ok (.enter 99 xs) w := Try.call99 xs w
theorem J3 (w : World) : ∃ m, (sizeOf 3).run Try.prog w = .ok (m + 1) w := ⟨0, Try.sizeOf3 w⟩
theorem J4 (w : World) : ∃ m, (sizeOf 4).run Try.prog w = .ok (m + 1) w := ⟨0, Try.sizeOf4 w⟩
theorem J9 (w : World) : ∃ m, (sizeOf 9).run Try.prog w = .ok (m + 1) w := ⟨0, Try.sizeOf9 w⟩
theorem J23 (w : World) : ∃ m, (sizeOf 23).run Try.prog w = .ok (m + 1) w := ⟨2, Try.sizeOf23 w⟩
theorem J24 (w : World) : ∃ m, (sizeOf 24).run Try.prog w = .ok (m + 1) w := ⟨0, Try.sizeOf24 w⟩
theorem J25 (w : World) : ∃ m, (sizeOf 25).run Try.prog w = .ok (m + 1) w := ⟨0, Try.sizeOf25 w⟩
theorem J27 (w : World) : ∃ m, (sizeOf 27).run Try.prog w = .ok (m + 1) w := ⟨7, Try.sizeOf27 w⟩
theorem J36 (w : World) : ∃ m, (sizeOf 36).run Try.prog w = .ok (m + 1) w := ⟨0, Try.sizeOf36 w⟩
theorem J51 (w : World) : ∃ m, (sizeOf 51).run Try.prog w = .ok (m + 1) w := ⟨0, Try.sizeOf51 w⟩
theorem J60 (w : World) : ∃ m, (sizeOf 60).run Try.prog w = .ok (m + 1) w := ⟨0, Try.sizeOf60 w⟩
theorem J74 (w : World) : ∃ m, (sizeOf 74).run Try.prog w = .ok (m + 1) w := ⟨0, Try.sizeOf74 w⟩
theorem J88 (w : World) : ∃ m, (sizeOf 88).run Try.prog w = .ok (m + 1) w := ⟨0, Try.sizeOf88 w⟩
theorem J89 (w : World) : ∃ m, (sizeOf 89).run Try.prog w = .ok (m + 1) w := ⟨0, Try.sizeOf89 w⟩
theorem J94 (w : World) : ∃ m, (sizeOf 94).run Try.prog w = .ok (m + 1) w := ⟨0, Try.sizeOf94 w⟩
theorem U3 : Try.prog.underlying 3 = some (.int .i64) := Try.underlying3
theorem U4 : Try.prog.underlying 4 = some (.bool) := Try.underlying4
theorem U5 : Try.prog.underlying 5 = some (.int .u8) := Try.underlying5
theorem U9 : Try.prog.underlying 9 = some (.string) := Try.underlying9
theorem U23 : Try.prog.underlying 23 = some (.struct #[⟨ "Act", 3, 0, false, "", "", 0⟩, ⟨ "Item", 3, 1, false, "", "", 8⟩, ⟨ "N", 3, 2, false, "", "", 16⟩]) := Try.underlying23
theorem U24 : Try.prog.underlying 24 = some (.slice 49) := Try.underlying24
theorem U25 : Try.prog.underlying 25 = some (.slice 27) := Try.underlying25
theorem U27 : Try.prog.underlying 27 = some (.struct #[⟨ "Id", 23, 0, false, "", "", 0⟩, ⟨ "Kind", 3, 3, false, "", "", 24⟩, ⟨ "Label", 9, 4, false, "", "", 32⟩, ⟨ "Head", 24, 5, false, "", "", 48⟩, ⟨ "Words", 24, 6, false, "", "", 72⟩, ⟨ "Kids", 25, 7, false, "", "", 96⟩]) := Try.underlying27
theorem U28 : Try.prog.underlying 28 = some (.slice 44) := Try.underlying28
theorem U32 : Try.prog.underlying 32 = some (.slice 56) := Try.underlying32
theorem U34 : Try.prog.underlying 34 = some (.slice 53) := Try.underlying34
theorem U36 : Try.prog.underlying 36 = some (.slice 23) := Try.underlying36
theorem U39 : Try.prog.underlying 39 = some (.map 23 4) := Try.underlying39
theorem U44 : Try.prog.underlying 44 = some (.struct #[⟨ "At", 23, 0, false, "", "", 0⟩, ⟨ "N", 3, 3, false, "", "", 24⟩, ⟨ "To", 36, 4, false, "", "", 32⟩]) := Try.underlying44
theorem U49 : Try.prog.underlying 49 = some (.struct #[⟨ "Text", 9, 0, false, "", "", 0⟩, ⟨ "By", 47, 1, false, "", "", 16⟩]) := Try.underlying49
theorem U53 : Try.prog.underlying 53 = some (.struct #[⟨ "At", 3, 0, false, "", "", 0⟩, ⟨ "Id", 23, 1, false, "", "", 8⟩, ⟨ "Why", 51, 4, false, "", "", 32⟩, ⟨ "Text", 9, 5, false, "", "", 40⟩]) := Try.underlying53
theorem U56 : Try.prog.underlying 56 = some (.struct #[⟨ "From", 23, 0, false, "", "", 0⟩, ⟨ "To", 23, 3, false, "", "", 24⟩]) := Try.underlying56
theorem U60 : Try.prog.underlying 60 = some (.slice 9) := Try.underlying60
theorem U74 : Try.prog.underlying 74 = some (.map 23 36) := Try.underlying74
theorem U88 : Try.prog.underlying 88 = some (.map 3 96) := Try.underlying88
theorem U89 : Try.prog.underlying 89 = some (.map 3 36) := Try.underlying89
theorem U94 : Try.prog.underlying 94 = some (.slice 124) := Try.underlying94
theorem U96 : Try.prog.underlying 96 = some (.struct #[⟨ "Kind", 3, 0, false, "", "", 0⟩, ⟨ "Path", 94, 1, false, "", "", 8⟩, ⟨ "To", 9, 2, false, "", "", 32⟩, ⟨ "From", 3, 3, false, "", "", 48⟩, ⟨ "At", 3, 4, false, "", "", 56⟩]) := Try.underlying96
theorem U104 : Try.prog.underlying 104 = some (.slice 96) := Try.underlying104
theorem U112 : Try.prog.underlying 112 = some (.slice 114) := Try.underlying112
theorem U124 : Try.prog.underlying 124 = some (.struct #[⟨ "Kind", 3, 0, false, "", "", 0⟩, ⟨ "Label", 9, 1, false, "", "", 8⟩]) := Try.underlying124
theorem Y23 (w : World) : (isAgg 23).run Try.prog w = .ok true w := Try.isAgg23 w
theorem Y27 (w : World) : (isAgg 27).run Try.prog w = .ok true w := Try.isAgg27 w
theorem Y34 (w : World) : (isAgg 34).run Try.prog w = .ok false w := Try.isAgg34 w
theorem Y36 (w : World) : (isAgg 36).run Try.prog w = .ok false w := Try.isAgg36 w
theorem Y44 (w : World) : (isAgg 44).run Try.prog w = .ok true w := Try.isAgg44 w
theorem Y53 (w : World) : (isAgg 53).run Try.prog w = .ok true w := Try.isAgg53 w
theorem Y72 (w : World) : (isAgg 72).run Try.prog w = .ok false w := Try.isAgg72 w
theorem Y91 (w : World) : (isAgg 91).run Try.prog w = .ok true w := Try.isAgg91 w
theorem Y96 (w : World) : (isAgg 96).run Try.prog w = .ok true w := Try.isAgg96 w
theorem Y117 (w : World) : (isAgg 117).run Try.prog w = .ok true w := Try.isAgg117 w
theorem Y124 (w : World) : (isAgg 124).run Try.prog w = .ok true w := Try.isAgg124 w
theorem Z3 (w : World) : (sizeOf 3).run Try.prog w = .ok 1 w := Try.sizeOf3 w
theorem Z4 (w : World) : (sizeOf 4).run Try.prog w = .ok 1 w := Try.sizeOf4 w
theorem Z9 (w : World) : (sizeOf 9).run Try.prog w = .ok 1 w := Try.sizeOf9 w
theorem Z23 (w : World) : (sizeOf 23).run Try.prog w = .ok 3 w := Try.sizeOf23 w
theorem Z24 (w : World) : (sizeOf 24).run Try.prog w = .ok 1 w := Try.sizeOf24 w
theorem Z25 (w : World) : (sizeOf 25).run Try.prog w = .ok 1 w := Try.sizeOf25 w
theorem Z27 (w : World) : (sizeOf 27).run Try.prog w = .ok 8 w := Try.sizeOf27 w
theorem Z34 (w : World) : (sizeOf 34).run Try.prog w = .ok 1 w := Try.sizeOf34 w
theorem Z36 (w : World) : (sizeOf 36).run Try.prog w = .ok 1 w := Try.sizeOf36 w
theorem Z44 (w : World) : (sizeOf 44).run Try.prog w = .ok 5 w := Try.sizeOf44 w
theorem Z49 (w : World) : (sizeOf 49).run Try.prog w = .ok 4 w := Try.sizeOf49 w
theorem Z51 (w : World) : (sizeOf 51).run Try.prog w = .ok 1 w := Try.sizeOf51 w
theorem Z53 (w : World) : (sizeOf 53).run Try.prog w = .ok 6 w := Try.sizeOf53 w
theorem Z56 (w : World) : (sizeOf 56).run Try.prog w = .ok 6 w := Try.sizeOf56 w
theorem Z60 (w : World) : (sizeOf 60).run Try.prog w = .ok 1 w := Try.sizeOf60 w
theorem Z63 (w : World) : (sizeOf 63).run Try.prog w = .ok 1 w := Try.sizeOf63 w
theorem Z72 (w : World) : (sizeOf 72).run Try.prog w = .ok 1 w := Try.sizeOf72 w
theorem Z74 (w : World) : (sizeOf 74).run Try.prog w = .ok 1 w := Try.sizeOf74 w
theorem Z88 (w : World) : (sizeOf 88).run Try.prog w = .ok 1 w := Try.sizeOf88 w
theorem Z89 (w : World) : (sizeOf 89).run Try.prog w = .ok 1 w := Try.sizeOf89 w
theorem Z91 (w : World) : (sizeOf 91).run Try.prog w = .ok 3 w := Try.sizeOf91 w
theorem Z94 (w : World) : (sizeOf 94).run Try.prog w = .ok 1 w := Try.sizeOf94 w
theorem Z96 (w : World) : (sizeOf 96).run Try.prog w = .ok 5 w := Try.sizeOf96 w
theorem Z114 (w : World) : (sizeOf 114).run Try.prog w = .ok 1 w := Try.sizeOf114 w
theorem Z117 (w : World) : (sizeOf 117).run Try.prog w = .ok 3 w := Try.sizeOf117 w
theorem Z124 (w : World) : (sizeOf 124).run Try.prog w = .ok 2 w := Try.sizeOf124 w

end Go.Proofs.Ytclepigknhoonaa
