/-
  The code does what the models say: written by program.
-/
import Derived.Test.YtfclekegoleiaaaWc
set_option linter.unusedVariables false
set_option linter.unusedSimpArgs false
namespace Go.Proofs.Ytfclekegoleiaaa
open Go Go.Dec

set_option maxRecDepth 100000
set_option maxHeartbeats 4000000
theorem law07_book_spec  (r : api_Unit) (hm : M.law07_book  = some r) : FSpec Try.prog 35 [] (tapi_Unit.is r) := by
  unfold M.law07_book at hm
  refine FSpec.of Try.func35 rfl rfl rfl (fun g0 => ?_)
  refine W.sr ?_
  refine WL.opR rfl (OpR.alloc 0 ze27) (fun b => ?_)
  refine WL.nr ?_
  refine WL.op rfl (Op1.build (s := tapi_Id) (x := (⟨(1 : Int), (0 : Int), (2 : Int)⟩ : api_Id)) zapi_Id_f rfl Try.underlying23 (zapi_Id_sz _ Try.underlying23) ze23 ⟨_, (tI .i64), (1 : Int), _, _, rfl, Try.sizeOf3, (.int (inR64.2 (by omega))), sapi_Id_0, ⟨_, (tI .i64), (2 : Int), _, _, rfl, Try.sizeOf3, (.int (inR64.2 (by omega))), sapi_Id_2, rfl⟩⟩) ?_
  refine WL.op rfl (Op1.build (s := tapi_Unit) (x := (⟨(⟨(1 : Int), (0 : Int), (2 : Int)⟩ : api_Id), (3 : Int), ([50] : Str), ([] : List api_Word), ([] : List api_Word), ([] : List api_Unit)⟩ : api_Unit)) zapi_Unit_f rfl Try.underlying27 (zapi_Unit_sz _ Try.underlying27) ze27 ⟨_, tapi_Id, (⟨(1 : Int), (0 : Int), (2 : Int)⟩ : api_Id), _, _, rfl, Try.sizeOf23, (.tmp rfl), sapi_Unit_0, ⟨_, (tI .i64), (3 : Int), _, _, rfl, Try.sizeOf3, (.int (inR64.2 (by omega))), sapi_Unit_1, ⟨_, tS, ([50] : Str), _, _, rfl, Try.sizeOf9, (.str rfl (by decide)), sapi_Unit_2, rfl⟩⟩⟩) ?_
  refine WL.opR rfl (OpR.alloc 1 ze27) (fun b1 => ?_)
  refine WL.opU (OpR.storeB (b := b1) 1 Try.sizeOf27 (Cellable.is tapi_Unit (⟨(⟨(1 : Int), (0 : Int), (2 : Int)⟩ : api_Id), (3 : Int), ([50] : Str), ([] : List api_Word), ([] : List api_Word), ([] : List api_Unit)⟩ : api_Unit)) rfl (.tmp rfl) (.tmp rfl)) (fun _ => ?_)
  refine WL.sealed (t := tapi_Unit) (u := (⟨(⟨(1 : Int), (0 : Int), (2 : Int)⟩ : api_Id), (3 : Int), ([50] : Str), ([] : List api_Word), ([] : List api_Word), ([] : List api_Unit)⟩ : api_Unit)) 1 1 rfl rfl ?_
  refine WL.nr ?_
  refine WL.op rfl (Op1.build (s := tapi_Id) (x := (⟨(1 : Int), (0 : Int), (4 : Int)⟩ : api_Id)) zapi_Id_f rfl Try.underlying23 (zapi_Id_sz _ Try.underlying23) ze23 ⟨_, (tI .i64), (1 : Int), _, _, rfl, Try.sizeOf3, (.int (inR64.2 (by omega))), sapi_Id_0, ⟨_, (tI .i64), (4 : Int), _, _, rfl, Try.sizeOf3, (.int (inR64.2 (by omega))), sapi_Id_2, rfl⟩⟩) ?_
  refine WL.op rfl (Op1.build (s := tapi_Unit) (x := (⟨(⟨(1 : Int), (0 : Int), (4 : Int)⟩ : api_Id), (2 : Int), ([54] : Str), ([] : List api_Word), ([] : List api_Word), ([] : List api_Unit)⟩ : api_Unit)) zapi_Unit_f rfl Try.underlying27 (zapi_Unit_sz _ Try.underlying27) ze27 ⟨_, tapi_Id, (⟨(1 : Int), (0 : Int), (4 : Int)⟩ : api_Id), _, _, rfl, Try.sizeOf23, (.tmp rfl), sapi_Unit_0, ⟨_, (tI .i64), (2 : Int), _, _, rfl, Try.sizeOf3, (.int (inR64.2 (by omega))), sapi_Unit_1, ⟨_, tS, ([54] : Str), _, _, rfl, Try.sizeOf9, (.str rfl (by decide)), sapi_Unit_2, rfl⟩⟩⟩) ?_
  refine WL.opR rfl (OpR.alloc 2 ze27) (fun b2 => ?_)
  refine WL.opU (OpR.storeB (b := b2) 2 Try.sizeOf27 (Cellable.is tapi_Unit (⟨(⟨(1 : Int), (0 : Int), (4 : Int)⟩ : api_Id), (2 : Int), ([54] : Str), ([] : List api_Word), ([] : List api_Word), ([] : List api_Unit)⟩ : api_Unit)) rfl (.tmp rfl) (.tmp rfl)) (fun _ => ?_)
  refine WL.sealed (t := tapi_Unit) (u := (⟨(⟨(1 : Int), (0 : Int), (4 : Int)⟩ : api_Id), (2 : Int), ([54] : Str), ([] : List api_Word), ([] : List api_Word), ([] : List api_Unit)⟩ : api_Unit)) 2 2 rfl rfl ?_
  refine WL.nr ?_
  refine WL.op rfl (Op1.build (s := tapi_Id) (x := (⟨(1 : Int), (0 : Int), (1 : Int)⟩ : api_Id)) zapi_Id_f rfl Try.underlying23 (zapi_Id_sz _ Try.underlying23) ze23 ⟨_, (tI .i64), (1 : Int), _, _, rfl, Try.sizeOf3, (.int (inR64.2 (by omega))), sapi_Id_0, ⟨_, (tI .i64), (1 : Int), _, _, rfl, Try.sizeOf3, (.int (inR64.2 (by omega))), sapi_Id_2, rfl⟩⟩) ?_
  refine WL.op rfl (Op1.load ty27 (.tmp rfl)) ?_
  refine WL.op rfl (Op1.buildSlice (n := 1) (ys := [(0, (⟨(⟨(1 : Int), (0 : Int), (2 : Int)⟩ : api_Id), (3 : Int), ([50] : Str), ([] : List api_Word), ([] : List api_Word), ([] : List api_Unit)⟩ : api_Unit))]) (z := zapi_Unit) (xs := [(⟨(⟨(1 : Int), (0 : Int), (2 : Int)⟩ : api_Id), (3 : Int), ([50] : Str), ([] : List api_Word), ([] : List api_Word), ([] : List api_Unit)⟩ : api_Unit)]) Try.underlying25 el27 ze27 ⟨rfl, (.tmp rfl), trivial⟩ (by simp) (by decide) rfl) ?_
  refine WL.op rfl (Op1.build (s := tapi_Unit) (x := (⟨(⟨(1 : Int), (0 : Int), (1 : Int)⟩ : api_Id), (2 : Int), ([53] : Str), ([] : List api_Word), ([] : List api_Word), [(⟨(⟨(1 : Int), (0 : Int), (2 : Int)⟩ : api_Id), (3 : Int), ([50] : Str), ([] : List api_Word), ([] : List api_Word), ([] : List api_Unit)⟩ : api_Unit)]⟩ : api_Unit)) zapi_Unit_f rfl Try.underlying27 (zapi_Unit_sz _ Try.underlying27) ze27 ⟨_, tapi_Id, (⟨(1 : Int), (0 : Int), (1 : Int)⟩ : api_Id), _, _, rfl, Try.sizeOf23, (.tmp rfl), sapi_Unit_0, ⟨_, (tI .i64), (2 : Int), _, _, rfl, Try.sizeOf3, (.int (inR64.2 (by omega))), sapi_Unit_1, ⟨_, tS, ([53] : Str), _, _, rfl, Try.sizeOf9, (.str rfl (by decide)), sapi_Unit_2, ⟨_, (tL tapi_Unit), ([(⟨(⟨(1 : Int), (0 : Int), (2 : Int)⟩ : api_Id), (3 : Int), ([50] : Str), ([] : List api_Word), ([] : List api_Word), ([] : List api_Unit)⟩ : api_Unit)]), _, _, rfl, Try.sizeOf25, (.tmp rfl), sapi_Unit_5, rfl⟩⟩⟩⟩) ?_
  refine WL.op rfl (Op1.build (s := tapi_Id) (x := (⟨(1 : Int), (0 : Int), (3 : Int)⟩ : api_Id)) zapi_Id_f rfl Try.underlying23 (zapi_Id_sz _ Try.underlying23) ze23 ⟨_, (tI .i64), (1 : Int), _, _, rfl, Try.sizeOf3, (.int (inR64.2 (by omega))), sapi_Id_0, ⟨_, (tI .i64), (3 : Int), _, _, rfl, Try.sizeOf3, (.int (inR64.2 (by omega))), sapi_Id_2, rfl⟩⟩) ?_
  refine WL.op rfl (Op1.load ty27 (.tmp rfl)) ?_
  refine WL.op rfl (Op1.buildSlice (n := 1) (ys := [(0, (⟨(⟨(1 : Int), (0 : Int), (4 : Int)⟩ : api_Id), (2 : Int), ([54] : Str), ([] : List api_Word), ([] : List api_Word), ([] : List api_Unit)⟩ : api_Unit))]) (z := zapi_Unit) (xs := [(⟨(⟨(1 : Int), (0 : Int), (4 : Int)⟩ : api_Id), (2 : Int), ([54] : Str), ([] : List api_Word), ([] : List api_Word), ([] : List api_Unit)⟩ : api_Unit)]) Try.underlying25 el27 ze27 ⟨rfl, (.tmp rfl), trivial⟩ (by simp) (by decide) rfl) ?_
  refine WL.op rfl (Op1.build (s := tapi_Unit) (x := (⟨(⟨(1 : Int), (0 : Int), (3 : Int)⟩ : api_Id), (1 : Int), ([49] : Str), ([] : List api_Word), ([] : List api_Word), [(⟨(⟨(1 : Int), (0 : Int), (4 : Int)⟩ : api_Id), (2 : Int), ([54] : Str), ([] : List api_Word), ([] : List api_Word), ([] : List api_Unit)⟩ : api_Unit)]⟩ : api_Unit)) zapi_Unit_f rfl Try.underlying27 (zapi_Unit_sz _ Try.underlying27) ze27 ⟨_, tapi_Id, (⟨(1 : Int), (0 : Int), (3 : Int)⟩ : api_Id), _, _, rfl, Try.sizeOf23, (.tmp rfl), sapi_Unit_0, ⟨_, (tI .i64), (1 : Int), _, _, rfl, Try.sizeOf3, (.int (inR64.2 (by omega))), sapi_Unit_1, ⟨_, tS, ([49] : Str), _, _, rfl, Try.sizeOf9, (.str rfl (by decide)), sapi_Unit_2, ⟨_, (tL tapi_Unit), ([(⟨(⟨(1 : Int), (0 : Int), (4 : Int)⟩ : api_Id), (2 : Int), ([54] : Str), ([] : List api_Word), ([] : List api_Word), ([] : List api_Unit)⟩ : api_Unit)]), _, _, rfl, Try.sizeOf25, (.tmp rfl), sapi_Unit_5, rfl⟩⟩⟩⟩) ?_
  refine WL.op rfl (Op1.buildSlice (n := 2) (ys := [(0, (⟨(⟨(1 : Int), (0 : Int), (1 : Int)⟩ : api_Id), (2 : Int), ([53] : Str), ([] : List api_Word), ([] : List api_Word), [(⟨(⟨(1 : Int), (0 : Int), (2 : Int)⟩ : api_Id), (3 : Int), ([50] : Str), ([] : List api_Word), ([] : List api_Word), ([] : List api_Unit)⟩ : api_Unit)]⟩ : api_Unit)), (1, (⟨(⟨(1 : Int), (0 : Int), (3 : Int)⟩ : api_Id), (1 : Int), ([49] : Str), ([] : List api_Word), ([] : List api_Word), [(⟨(⟨(1 : Int), (0 : Int), (4 : Int)⟩ : api_Id), (2 : Int), ([54] : Str), ([] : List api_Word), ([] : List api_Word), ([] : List api_Unit)⟩ : api_Unit)]⟩ : api_Unit))]) (z := zapi_Unit) (xs := [(⟨(⟨(1 : Int), (0 : Int), (1 : Int)⟩ : api_Id), (2 : Int), ([53] : Str), ([] : List api_Word), ([] : List api_Word), [(⟨(⟨(1 : Int), (0 : Int), (2 : Int)⟩ : api_Id), (3 : Int), ([50] : Str), ([] : List api_Word), ([] : List api_Word), ([] : List api_Unit)⟩ : api_Unit)]⟩ : api_Unit), (⟨(⟨(1 : Int), (0 : Int), (3 : Int)⟩ : api_Id), (1 : Int), ([49] : Str), ([] : List api_Word), ([] : List api_Word), [(⟨(⟨(1 : Int), (0 : Int), (4 : Int)⟩ : api_Id), (2 : Int), ([54] : Str), ([] : List api_Word), ([] : List api_Word), ([] : List api_Unit)⟩ : api_Unit)]⟩ : api_Unit)]) Try.underlying25 el27 ze27 ⟨rfl, (.tmp rfl), rfl, (.tmp rfl), trivial⟩ (by simp) (by decide) rfl) ?_
  refine WL.op rfl (Op1.build (s := tapi_Unit) (x := (⟨zapi_Id, (0 : Int), ([] : Str), ([] : List api_Word), ([] : List api_Word), [(⟨(⟨(1 : Int), (0 : Int), (1 : Int)⟩ : api_Id), (2 : Int), ([53] : Str), ([] : List api_Word), ([] : List api_Word), [(⟨(⟨(1 : Int), (0 : Int), (2 : Int)⟩ : api_Id), (3 : Int), ([50] : Str), ([] : List api_Word), ([] : List api_Word), ([] : List api_Unit)⟩ : api_Unit)]⟩ : api_Unit), (⟨(⟨(1 : Int), (0 : Int), (3 : Int)⟩ : api_Id), (1 : Int), ([49] : Str), ([] : List api_Word), ([] : List api_Word), [(⟨(⟨(1 : Int), (0 : Int), (4 : Int)⟩ : api_Id), (2 : Int), ([54] : Str), ([] : List api_Word), ([] : List api_Word), ([] : List api_Unit)⟩ : api_Unit)]⟩ : api_Unit)]⟩ : api_Unit)) zapi_Unit_f rfl Try.underlying27 (zapi_Unit_sz _ Try.underlying27) ze27 ⟨_, (tL tapi_Unit), ([(⟨(⟨(1 : Int), (0 : Int), (1 : Int)⟩ : api_Id), (2 : Int), ([53] : Str), ([] : List api_Word), ([] : List api_Word), [(⟨(⟨(1 : Int), (0 : Int), (2 : Int)⟩ : api_Id), (3 : Int), ([50] : Str), ([] : List api_Word), ([] : List api_Word), ([] : List api_Unit)⟩ : api_Unit)]⟩ : api_Unit), (⟨(⟨(1 : Int), (0 : Int), (3 : Int)⟩ : api_Id), (1 : Int), ([49] : Str), ([] : List api_Word), ([] : List api_Word), [(⟨(⟨(1 : Int), (0 : Int), (4 : Int)⟩ : api_Id), (2 : Int), ([54] : Str), ([] : List api_Word), ([] : List api_Word), ([] : List api_Unit)⟩ : api_Unit)]⟩ : api_Unit)]), _, _, rfl, Try.sizeOf25, (.tmp rfl), sapi_Unit_5, rfl⟩) ?_
  refine WL.opU (OpR.storeB (b := b) 0 Try.sizeOf27 (Cellable.is tapi_Unit (⟨zapi_Id, (0 : Int), ([] : Str), ([] : List api_Word), ([] : List api_Word), [(⟨(⟨(1 : Int), (0 : Int), (1 : Int)⟩ : api_Id), (2 : Int), ([53] : Str), ([] : List api_Word), ([] : List api_Word), [(⟨(⟨(1 : Int), (0 : Int), (2 : Int)⟩ : api_Id), (3 : Int), ([50] : Str), ([] : List api_Word), ([] : List api_Word), ([] : List api_Unit)⟩ : api_Unit)]⟩ : api_Unit), (⟨(⟨(1 : Int), (0 : Int), (3 : Int)⟩ : api_Id), (1 : Int), ([49] : Str), ([] : List api_Word), ([] : List api_Word), [(⟨(⟨(1 : Int), (0 : Int), (4 : Int)⟩ : api_Id), (2 : Int), ([54] : Str), ([] : List api_Word), ([] : List api_Word), ([] : List api_Unit)⟩ : api_Unit)]⟩ : api_Unit)]⟩ : api_Unit)) rfl (.tmp rfl) (.tmp rfl)) (fun _ => ?_)
  refine WL.ns ?_
  cases hm
  exact W.retQ1 () rfl (ResAt.cell 0 Try.isAgg27 Try.sizeOf27 rfl (.tmp rfl)) trivial

theorem address_way_spec : ∀ (n : Nat) (u : api_Unit) (id : api_Id) (r : (List api_Step) × Bool), M.address_way n u id = some r → FSpec Try.prog 59 [(tapi_Unit.is u), (tapi_Id.is id)] (Asn.tuple2 ((tL tapi_Step).is r.1) (tB.is r.2)) := by
  intro n
  induction n with
  | zero => intro u id r hm; cases hm
  | succ n ih =>
    intro u id r hm
    rw [M.address_way.eq_2] at hm
    refine FSpec.of Try.func59 rfl rfl rfl (fun g0 => ?_)
    refine W.sr ?_
    refine WL.op rfl (Op1.box (.tmp rfl)) ?_
    refine WL.op rfl (Op1.box (.tmp rfl)) ?_
    refine WL.op rfl (Op1.assign (.nil (t := tapi_Step))) ?_
    refine WL.op rfl (Op1.assign .bool) ?_
    refine WL.ns ?_
    refine W.seq ?_
    refine W.sr ?_
    refine WL.op rfl (Op1.fieldAddr Try.underlying27 rfl (fun w => ⟨2, Try.sizeOf23 w⟩) fapi_Unit_0 (.tmp rfl)) ?_
    refine WL.op rfl (Op1.load ty23 (.tmp rfl)) ?_
    refine WL.op rfl (Op1.load ty23 (.tmp rfl)) ?_
    refine WL.op rfl (Op1.eqSt (D := 2) rfl (by decide) eg23 eq23 (.tmp rfl) (.tmp rfl)) ?_
    refine WL.ns ?_
    refine W.cond (.tmp rfl) (fun hc1 => ?_) (fun hc1 => ?_)
    · have hp2 := of_decide_eq_true hc1
      rw [if_pos hp2] at hm
      refine W.sr ?_
      refine WL.op rfl (Op1.assign (.nil (t := tapi_Step))) ?_
      refine WL.op rfl (Op1.assign .bool) ?_
      refine WL.ns ?_
      cases hm
      exact W.ret2 () rfl rfl (.tmp rfl) (.tmp rfl) trivial
    · have hp2 := of_decide_eq_false hc1
      rw [if_neg hp2] at hm
      refine W.skip ?_
      refine WN.seq ?_
      refine W.seq ?_
      refine W.sr ?_
      refine WL.op rfl (Op1.fieldAddr Try.underlying27 rfl (fun w => ⟨0, Try.sizeOf25 w⟩) fapi_Unit_5 (.tmp rfl)) ?_
      refine WL.op rfl (Op1.load ty25 (.tmp rfl)) ?_
      refine WL.op rfl (Op1.lenL Try.underlying25 (.tmp rfl)) ?_
      refine WL.op rfl (Op1.move (.int (inR64.2 (by omega)))) ?_
      refine WL.ns ?_
      refine W.block ?_
      obtain ⟨s3, hs4, hk5⟩ := bind_some hm
      clear hm
      refine W.loop (fun m (s : Int × List api_Unit × List api_Unit × Unit) => m = s.2.2.1.length ∧ u.Kids = s.2.1 ++ s.2.2.1 ∧ s.1 = (s.2.1.length : Int) ∧ M.address_way_loop1 id (M.address_way n) s.2.2.1 = some s3) (fun s => [(17, ((tI .i64).is s.1)), (3, (tapi_Id.ptr id)), (15, ((tL tapi_Unit).is u.Kids)), (16, ((tI .i64).is (u.Kids.length : Int)))]) (fun s => []) u.Kids.length ((0 : Int), [], u.Kids, ()) ⟨rfl, rfl, rfl, hs4⟩ ⟨Ent.q rfl, Ent.q rfl, Ent.q rfl, Ent.q rfl, trivial⟩ trivial ?_
      rintro m ⟨i, pre, rest1, _⟩ ⟨hn9, hxs6, hi7, hm⟩
      try dsimp only at hn9 hxs6 hi7 hm
      change W _ _ _ _ _ _ _ [(17, ((tI .i64).is i)), (3, (tapi_Id.ptr id)), (15, ((tL tapi_Unit).is u.Kids)), (16, ((tI .i64).is (u.Kids.length : Int)))] []
      refine W.lenL (s := 15) (.tmp rfl) fun hlen8 => ?_
      refine W.sr ?_
      refine WL.op rfl (Op1.ltI (.tmp rfl) (.tmp rfl)) ?_
      refine WL.ns ?_
      refine W.seq ?_
      refine W.cond (.tmp rfl) (fun hc11 => ?_) (fun hc11 => ?_)
      · have hp12 := of_decide_eq_true hc11
        obtain ⟨e, es, hrest14⟩ := range_more hxs6 hi7 hp12
        subst hrest14
        rw [M.address_way_loop1.eq_2] at hm
        refine W.skip ?_
        refine WN.seq ?_
        refine W.seq ?_
        refine W.block ?_
        refine W.sr ?_
        refine WL.op rfl (Op1.idxPre hxs6 hi7 Try.underlying25 Try.sizeOf27 (.tmp rfl) (.tmp rfl)) ?_
        refine WL.op rfl (Op1.load ty27 (.tmp rfl)) ?_
        refine WL.opR rfl (OpR.alloc 7 ze27) (fun b => ?_)
        refine WL.opU (OpR.storeB (b := b) 7 Try.sizeOf27 (Cellable.is tapi_Unit e) rfl (.tmp rfl) (.tmp rfl)) (fun _ => ?_)
        refine WL.sealed (t := tapi_Unit) (u := e) 7 7 rfl rfl ?_
        refine WL.nr ?_
        refine WL.op rfl (Op1.load ty27 (.tmp rfl)) ?_
        refine WL.op rfl (Op1.load ty23 (.tmp rfl)) ?_
        obtain ⟨way, hv15, hm⟩ := bind_some hm
        refine WL.op rfl (Op1.call Try.call59 (ih _ _ _ hv15) ⟨(.tmp rfl), (.tmp rfl), trivial⟩) ?_
        refine WL.mv rfl rfl ?_
        refine WL.op rfl (Op1.extract0 (.tmp rfl)) ?_
        refine WL.op rfl (Op1.extract1 (.tmp rfl)) ?_
        refine WL.gv rfl rfl ?_
        refine WL.gv rfl rfl ?_
        refine WL.nr ?_
        refine WL.mv rfl rfl ?_
        refine WL.ns ?_
        refine W.cond (.tmp rfl) (fun hc16 => ?_) (fun hc16 => ?_)
        · have hp17 := hc16
          rw [if_pos hp17] at hm
          refine W.sr ?_
          refine WL.op rfl (Op1.fieldAddr Try.underlying27 rfl (fun w => ⟨0, Try.sizeOf3 w⟩) fapi_Unit_1 (.tmp rfl)) ?_
          refine WL.op rfl (Op1.load ty3 (.tmp rfl)) ?_
          refine WL.op rfl (Op1.fieldAddr Try.underlying27 rfl (fun w => ⟨0, Try.sizeOf9 w⟩) fapi_Unit_2 (.tmp rfl)) ?_
          refine WL.op rfl (Op1.load ty9 (.tmp rfl)) ?_
          refine WL.op rfl (Op1.build (s := tapi_Step) (x := (⟨e.Kind, e.Label⟩ : api_Step)) zapi_Step_f rfl Try.underlying63 (zapi_Step_sz _ Try.underlying63) ze63 ⟨_, (tI .i64), e.Kind, _, _, rfl, Try.sizeOf3, (.tmp rfl), sapi_Step_0, ⟨_, tS, e.Label, _, _, rfl, Try.sizeOf9, (.tmp rfl), sapi_Step_1, rfl⟩⟩) ?_
          refine WL.opR rfl (OpR.buildSlice (n := 1) (ys := [(0, (⟨e.Kind, e.Label⟩ : api_Step))]) (z := zapi_Step) (xs := [(⟨e.Kind, e.Label⟩ : api_Step)]) 33 Try.underlying28 el63 ze63 ⟨rfl, (.tmp rfl), trivial⟩ (by simp) (by decide) rfl) (fun k => ?_)
          refine WL.mv rfl rfl ?_
          obtain ⟨out, hv18, hm⟩ := bind_some hm
          refine WL.opR rfl (OpR.appC (key := 33) hv18 Try.underlying28 el63 (.tmp rfl) (.tmp rfl) rfl) (fun k1 => ?_)
          refine WL.gv rfl rfl ?_
          refine WL.op rfl (Op1.assign .bool) ?_
          refine WL.ns ?_
          have hr19 := Option.some.inj hm
          clear hm
          subst hr19
          have hm := hk5
          try dsimp only at hm
          cases hm
          exact W.ret2 () rfl rfl (Opd.own (.tmp rfl)) (.tmp rfl) trivial
        · have hp17 := ne_of_false hc16
          rw [if_neg hp17] at hm
          refine W.skip ?_
          refine WN.block ?_
          refine WN.seq ?_
          refine W.region ?_
          refine WL.op rfl (Op1.addI (.tmp rfl) (.int (inR64.2 (by omega))) (range_inR hi7 hp12 hlen8)) ?_
          refine WL.mv rfl rfl ?_
          refine WL.nil ?_
          exact WN.again es.length (i + 1, pre ++ [e], es, ()) (range_lt hn9) ⟨rfl, range_step hxs6, range_idx hi7, hm⟩ ⟨Ent.q rfl, Ent.q rfl, Ent.q rfl, Ent.q rfl, trivial⟩ trivial
      · have hrest14 := range_end hxs6 hi7 (of_decide_eq_false hc11)
        subst hrest14
        rw [M.address_way_loop1.eq_1] at hm
        refine W.exit rfl ?_
        have hr20 := Option.some.inj hm
        clear hm
        subst hr20
        have hm := hk5
        try dsimp only at hm
        refine WN.seq ?_
        refine W.sr ?_
        refine WL.op rfl (Op1.assign (.nil (t := tapi_Step))) ?_
        refine WL.op rfl (Op1.assign .bool) ?_
        refine WL.ns ?_
        cases hm
        exact W.ret2 () rfl rfl (.tmp rfl) (.tmp rfl) trivial

theorem address_Full_spec (n : Nat) (u : api_Unit) (id : api_Id) (r : (List api_Step) × Bool) (hm : M.address_Full n u id = some r) : FSpec Try.prog 37 [(tapi_Unit.is u), (tapi_Id.is id)] (Asn.tuple2 ((tL tapi_Step).is r.1) (tB.is r.2)) := by
  unfold M.address_Full at hm
  refine FSpec.of Try.func37 rfl rfl rfl (fun g0 => ?_)
  refine W.sr ?_
  refine WL.op rfl (Op1.box (.tmp rfl)) ?_
  refine WL.op rfl (Op1.box (.tmp rfl)) ?_
  refine WL.op rfl (Op1.assign (.nil (t := tapi_Step))) ?_
  refine WL.op rfl (Op1.assign .bool) ?_
  refine WL.nr ?_
  refine WL.op rfl (Op1.load ty27 (.tmp rfl)) ?_
  refine WL.op rfl (Op1.load ty23 (.tmp rfl)) ?_
  obtain ⟨way, hv1, hm⟩ := bind_some hm
  refine WL.op rfl (Op1.call Try.call59 (address_way_spec _ _ _ _ hv1) ⟨(.tmp rfl), (.tmp rfl), trivial⟩) ?_
  refine WL.mv rfl rfl ?_
  refine WL.op rfl (Op1.extract0 (.tmp rfl)) ?_
  refine WL.op rfl (Op1.extract1 (.tmp rfl)) ?_
  refine WL.gv rfl rfl ?_
  refine WL.gv rfl rfl ?_
  refine WL.ns ?_
  refine W.seq ?_
  refine W.sr ?_
  refine WL.mv rfl rfl ?_
  refine WL.op rfl (Op1.notB (.tmp rfl)) ?_
  refine WL.ns ?_
  refine W.cond (.tmp rfl) (fun hc2 => ?_) (fun hc2 => ?_)
  · have hp3 := not_pos hc2
    rw [if_pos hp3] at hm
    refine W.sr ?_
    refine WL.op rfl (Op1.assign (.nil (t := tapi_Step))) ?_
    refine WL.op rfl (Op1.assign .bool) ?_
    refine WL.ns ?_
    cases hm
    exact W.ret2 () rfl rfl (.tmp rfl) (.tmp rfl) trivial
  · have hp3 := not_neg hc2
    rw [if_neg hp3] at hm
    refine W.skip ?_
    refine WN.seq ?_
    refine W.sr ?_
    refine WL.op rfl (Op1.build (s := tapi_Step) (x := (⟨(0 : Int), ([] : Str)⟩ : api_Step)) zapi_Step_f rfl Try.underlying63 (zapi_Step_sz _ Try.underlying63) ze63 ⟨_, (tI .i64), (0 : Int), _, _, rfl, Try.sizeOf3, (.int (inR64.2 (by omega))), sapi_Step_0, rfl⟩) ?_
    refine WL.opR rfl (OpR.buildSlice (n := 1) (ys := [(0, (⟨(0 : Int), ([] : Str)⟩ : api_Step))]) (z := zapi_Step) (xs := [(⟨(0 : Int), ([] : Str)⟩ : api_Step)]) 17 Try.underlying28 el63 ze63 ⟨rfl, (.tmp rfl), trivial⟩ (by simp) (by decide) rfl) (fun k => ?_)
    refine WL.mv rfl rfl ?_
    obtain ⟨out, hv4, hm⟩ := bind_some hm
    refine WL.opR rfl (OpR.appC (key := 17) hv4 Try.underlying28 el63 (.tmp rfl) (.tmp rfl) rfl) (fun k1 => ?_)
    refine WL.gv rfl rfl ?_
    refine WL.op rfl (Op1.assign .bool) ?_
    refine WL.ns ?_
    cases hm
    exact W.ret2 () rfl rfl (Opd.own (.tmp rfl)) (.tmp rfl) trivial

theorem slices_Clone_api_Step_api_Step_spec (l : List api_Step) (r : List api_Step) (hm : M.slices_Clone_api_Step_api_Step l = some r) : FSpecR Try.prog 58 [(tL tapi_Step).is l] [] (fun k : Tok => tO tapi_Step k r) (fun k => [(5, Own tapi_Step 63 k r.length)]) := by
  unfold M.slices_Clone_api_Step_api_Step at hm
  refine FSpecR.of Try.func58 rfl rfl rfl (fun g0 => ?_)
  refine W.seq ?_
  refine W.region ?_
  refine WL.op rfl (Op1.assign (.nil (t := tapi_Step))) ?_
  refine WL.nil ?_
  refine WN.seq ?_
  refine W.seq ?_
  refine W.seq ?_
  refine W.region ?_
  refine WL.op rfl (Op1.move (.tmp rfl)) ?_
  refine WL.opR rfl (OpR.eqNil Try.underlying28 (.tmp rfl)) (fun b => ?_)
  refine WL.nil ?_
  refine WN.seq ?_
  refine W.cond (.tmp rfl) (fun hc => ?_) (fun hc => ?_)
  · have hl := b.2 hc
    subst hl
    have hr : [] = r := by simpa [appC] using hm
    subst hr
    refine W.seq ?_
    refine W.region ?_
    refine WL.addNil (t := tapi_Step) (E := 63) 5 ?_
    refine WL.op rfl (Op1.assign (Opd.nilO (t := tapi_Step))) ?_
    refine WL.nil ?_
    refine WN.seq ?_
    exact W.ret1 (none : Tok) rfl (.tmp rfl) ⟨rfl, rfl, trivial⟩
  · refine W.skip ?_
    refine WN.seq ?_
    refine W.seq ?_
    refine W.region ?_
    refine WL.opR rfl (OpR.buildSlice (n := 0) (ys := []) (z := zapi_Step) (xs := []) 5 Try.underlying28 el63 ze63 trivial (by simp) (by decide) rfl) (fun k5 => ?_)
    refine WL.op rfl (Op1.move (.tmp rfl)) ?_
    refine WL.opR rfl (OpR.appC (key := 5) hm Try.underlying28 el63 (.tmp rfl) (.tmp rfl) rfl) (fun k7 => ?_)
    refine WL.op rfl (Op1.assign (.tmp rfl)) ?_
    refine WL.nil ?_
    refine WN.seq ?_
    exact W.ret1 k7 rfl (.tmp rfl) ⟨rfl, rfl, trivial⟩

theorem address_Shortest_spec (n : Nat) (u : api_Unit) (id : api_Id) (r : (List api_Step) × Bool) (hm : M.address_Shortest n u id = some r) : FSpec Try.prog 36 [(tapi_Unit.is u), (tapi_Id.is id)] (Asn.tuple2 ((tL tapi_Step).is r.1) (tB.is r.2)) := by
  unfold M.address_Shortest at hm
  refine FSpec.of Try.func36 rfl rfl rfl (fun g0 => ?_)
  refine W.sr ?_
  refine WL.op rfl (Op1.box (.tmp rfl)) ?_
  refine WL.op rfl (Op1.box (.tmp rfl)) ?_
  refine WL.op rfl (Op1.assign (.nil (t := tapi_Step))) ?_
  refine WL.op rfl (Op1.assign .bool) ?_
  refine WL.nr ?_
  refine WL.op rfl (Op1.load ty27 (.tmp rfl)) ?_
  refine WL.op rfl (Op1.load ty23 (.tmp rfl)) ?_
  obtain ⟨full, hv1, hm⟩ := bind_some hm
  refine WL.op rfl (Op1.call Try.call37 (address_Full_spec _ _ _ _ hv1) ⟨(.tmp rfl), (.tmp rfl), trivial⟩) ?_
  refine WL.mv rfl rfl ?_
  refine WL.op rfl (Op1.extract0 (.tmp rfl)) ?_
  refine WL.op rfl (Op1.extract1 (.tmp rfl)) ?_
  refine WL.gv rfl rfl ?_
  refine WL.gv rfl rfl ?_
  refine WL.ns ?_
  refine W.seq ?_
  refine W.sr ?_
  refine WL.op rfl (Op1.assign (.int (inR64.2 (by omega)))) ?_
  refine WL.ns ?_
  refine W.block ?_
  obtain ⟨s2, hs3, hk4⟩ := bind_some hm
  clear hm
  refine W.loop (fun m (s : Int) => M.address_Shortest_loop1 u id full m s = some s2) (fun s => [(8, ((tI .i64).is s)), (2, (tapi_Unit.ptr u)), (3, (tapi_Id.ptr id)), (6, ((tL tapi_Step).is full.1)), (7, (tB.is full.2))]) (fun s => []) _ (1 : Int) hs3 ⟨Ent.q rfl, Ent.q rfl, Ent.q rfl, Ent.q rfl, Ent.q rfl, trivial⟩ trivial ?_
  rintro n5 n0_ hm
  try dsimp only at hm
  change W _ _ _ _ _ _ _ [(8, ((tI .i64).is n0_)), (2, (tapi_Unit.ptr u)), (3, (tapi_Id.ptr id)), (6, ((tL tapi_Step).is full.1)), (7, (tB.is full.2))] []
  cases n5 with
  | zero => rw [M.address_Shortest_loop1.eq_1] at hm; cases hm
  | succ n5 =>
    rw [M.address_Shortest_loop1.eq_2] at hm
    refine W.seq ?_
    refine W.sr ?_
    refine WL.mv rfl rfl ?_
    refine WL.mv rfl rfl ?_
    refine WL.op rfl (Op1.lenL Try.underlying28 (.tmp rfl)) ?_
    refine WL.op rfl (Op1.ltI (.tmp rfl) (.tmp rfl)) ?_
    refine WL.ns ?_
    refine W.cond (.tmp rfl) (fun hc6 => ?_) (fun hc6 => ?_)
    · have hp7 := of_decide_eq_true hc6
      rw [if_pos hp7] at hm
      refine W.skip ?_
      refine WN.seq ?_
      refine W.seq ?_
      refine W.block ?_
      refine W.sr ?_
      refine WL.mv rfl rfl ?_
      refine WL.mv rfl rfl ?_
      refine WL.op rfl (Op1.lenL Try.underlying28 (.tmp rfl)) ?_
      refine WL.mv rfl rfl ?_
      obtain ⟨v, hv8, hm⟩ := bind_some hm
      refine WL.op rfl (Op1.subC hv8 (.tmp rfl) (.tmp rfl)) ?_
      obtain ⟨v1, hv9, hm⟩ := bind_some hm
      refine WL.op rfl (Op1.slcLo hv9 Try.underlying28 Try.sizeOf63 (.tmp rfl) (.tmp rfl)) ?_
      refine WL.gv rfl rfl ?_
      refine WL.nr ?_
      refine WL.op rfl (Op1.load ty27 (.tmp rfl)) ?_
      refine WL.mv rfl rfl ?_
      obtain ⟨findal, hv10, hm⟩ := bind_some hm
      refine WL.op rfl (Op1.call Try.call25 (address_FindAll_spec _ _ _ _ hv10) ⟨(.tmp rfl), (.tmp rfl), trivial⟩) ?_
      refine WL.gv rfl rfl ?_
      refine WL.ns ?_
      refine W.seq ?_
      rcases bcases (decide ((findal.length : Int) = (1 : Int))) with hb11 | hb11
      · have hp12 := of_decide_eq_true hb11
        rw [if_pos hp12] at hm
        obtain ⟨v2, hv13, hm⟩ := bind_some hm
        refine W.draw [.c ((tL tapi_Id).is findal), .c ((tI .i64).is (findal.length : Int)), .c (tB.is (decide ((findal.length : Int) = (1 : Int)))), .c (tB.is (decide ((findal.length : Int) = (1 : Int)))), .c ((tL tapi_Id).is findal), .c (tapi_Id.ptr v2), .c (tapi_Id.is v2), .c (tapi_Id.is id), .c (tB.is (decide (v2 = id))), .c (tB.is (decide (v2 = id)))] [([], [10]), ([0], []), ([1], []), ([2], []), ([3], [10]), ([3, 4], []), ([3, 5], []), ([3], [3]), ([3, 6, 7], []), ([3, 8], [])] Try.mixed rfl rfl rfl rfl ⟨.inr (Op1.move (.tmp rfl)), .inr (Op1.lenL Try.underlying42 (.tmp rfl)), .inr (Op1.eqI (.tmp rfl) (.int (inR64.2 (by omega)))), .inr (Op1.move (.tmp rfl)), .inr ⟨_, _, _, rfl, rfl, .inl ⟨rfl, .inl ⟨hb11, Op1.move (.tmp rfl)⟩⟩⟩, .inr ⟨_, _, _, rfl, rfl, .inl ⟨rfl, .inl ⟨hb11, Op1.idx hv13 Try.underlying42 Try.sizeOf23 (.tmp rfl) (.int (inR64.2 (by omega)))⟩⟩⟩, .inr ⟨_, _, _, rfl, rfl, .inl ⟨rfl, .inl ⟨hb11, Op1.load ty23 (.tmp rfl)⟩⟩⟩, .inr ⟨_, _, _, rfl, rfl, .inl ⟨rfl, .inl ⟨hb11, Op1.load ty23 (.tmp rfl)⟩⟩⟩, .inr ⟨_, _, _, rfl, rfl, .inl ⟨rfl, .inl ⟨hb11, Op1.eqSt (D := 2) rfl (by decide) eg23 eq23 (.tmp rfl) (.tmp rfl)⟩⟩⟩, .inr (Op1.pickT (.tmp rfl) hb11 (.tmp rfl)), trivial⟩ ?_
        refine WN.seq ?_
        refine W.cond (.tmp rfl) (fun hc14 => ?_) (fun hc14 => ?_)
        · have hp15 := of_decide_eq_true hc14
          rw [if_pos hp15] at hm
          refine W.sr ?_
          refine WL.mv rfl rfl ?_
          obtain ⟨step, hv16, hm⟩ := bind_some hm
          refine WL.op rfl (Op1.call Try.call58 ((slices_Clone_api_Step_api_Step_spec _ _ hv16).read fun _ _ _ => tO_tL) ⟨(.tmp rfl), trivial⟩) ?_
          refine WL.gv rfl rfl ?_
          refine WL.op rfl (Op1.assign .bool) ?_
          refine WL.ns ?_
          have hr17 := Option.some.inj hm
          clear hm
          subst hr17
          have hm := hk4
          try dsimp only at hm
          cases hm
          exact W.ret2 () rfl rfl (.tmp rfl) (.tmp rfl) trivial
        · have hp15 := of_decide_eq_false hc14
          rw [if_neg hp15] at hm
          refine W.skip ?_
          refine WN.block ?_
          refine WN.seq ?_
          refine W.region ?_
          refine WL.mv rfl rfl ?_
          refine WL.lenL (s := 6) (.tmp rfl) fun hl18 => ?_
          refine WL.op rfl (Op1.addI1 (.tmp rfl) (.int (inR64.2 (by omega))) hp7 hl18) ?_
          refine WL.gv rfl rfl ?_
          refine WL.nil ?_
          exact WN.again n5 (n0_ + 1) (Nat.lt_succ_self n5) hm ⟨Ent.q rfl, Ent.q rfl, Ent.q rfl, Ent.q rfl, Ent.q rfl, trivial⟩ trivial
      · have hp12 := of_decide_eq_false hb11
        rw [if_neg hp12] at hm
        refine W.draw [.c ((tL tapi_Id).is findal), .c ((tI .i64).is (findal.length : Int)), .c (tB.is (decide ((findal.length : Int) = (1 : Int)))), .c (tB.is (decide ((findal.length : Int) = (1 : Int)))), .c (Asn.eq undef), .c (Asn.eq undef), .c (Asn.eq undef), .c (Asn.eq undef), .c (Asn.eq undef), .c (tB.is false)] [([], [10]), ([0], []), ([1], []), ([2], []), ([3], [10]), ([3, 4], []), ([3, 5], []), ([3], [3]), ([3, 6, 7], []), ([3, 8], [])] Try.mixed rfl rfl rfl rfl ⟨.inr (Op1.move (.tmp rfl)), .inr (Op1.lenL Try.underlying42 (.tmp rfl)), .inr (Op1.eqI (.tmp rfl) (.int (inR64.2 (by omega)))), .inr (Op1.move (.tmp rfl)), .inr ⟨_, _, _, rfl, rfl, .inl ⟨rfl, .inr ⟨hb11, rfl⟩⟩⟩, .inr ⟨_, _, _, rfl, rfl, .inl ⟨rfl, .inr ⟨hb11, rfl⟩⟩⟩, .inr ⟨_, _, _, rfl, rfl, .inl ⟨rfl, .inr ⟨hb11, rfl⟩⟩⟩, .inr ⟨_, _, _, rfl, rfl, .inl ⟨rfl, .inr ⟨hb11, rfl⟩⟩⟩, .inr ⟨_, _, _, rfl, rfl, .inl ⟨rfl, .inr ⟨hb11, rfl⟩⟩⟩, .inr (Op1.pickF (.tmp rfl) hb11 .bool), trivial⟩ ?_
        refine WN.seq ?_
        refine W.condF (.tmp rfl) ?_
        refine W.skip ?_
        refine WN.block ?_
        refine WN.seq ?_
        refine W.region ?_
        refine WL.mv rfl rfl ?_
        refine WL.lenL (s := 6) (.tmp rfl) fun hl19 => ?_
        refine WL.op rfl (Op1.addI1 (.tmp rfl) (.int (inR64.2 (by omega))) hp7 hl19) ?_
        refine WL.gv rfl rfl ?_
        refine WL.nil ?_
        exact WN.again n5 (n0_ + 1) (Nat.lt_succ_self n5) hm ⟨Ent.q rfl, Ent.q rfl, Ent.q rfl, Ent.q rfl, Ent.q rfl, trivial⟩ trivial
    · have hp7 := of_decide_eq_false hc6
      rw [if_neg hp7] at hm
      refine W.exit rfl ?_
      have hr20 := Option.some.inj hm
      clear hm
      subst hr20
      have hm := hk4
      try dsimp only at hm
      refine WN.seq ?_
      refine W.sr ?_
      refine WL.mv rfl rfl ?_
      refine WL.mv rfl rfl ?_
      refine WL.gv rfl rfl ?_
      refine WL.gv rfl rfl ?_
      refine WL.ns ?_
      cases hm
      exact W.ret2 () rfl rfl (.tmp rfl) (.tmp rfl) trivial

theorem address_name_spec (kind : Int) (r : Str × Bool) (hm : M.address_name kind = some r) : FSpec Try.prog 61 [((tI .i64).is kind)] (Asn.tuple2 (tS.is r.1) (tB.is r.2)) := by
  unfold M.address_name at hm
  refine FSpec.of Try.func61 rfl rfl rfl (fun g0 => ?_)
  refine W.sr ?_
  refine WL.op rfl (Op1.assign (.str rfl (by decide))) ?_
  refine WL.op rfl (Op1.assign .bool) ?_
  refine WL.nr ?_
  refine WL.op rfl (Op1.buildA (ys := [(0, ([98, 111, 111, 107] : Str)), (1, ([112, 97, 114, 116] : Str)), (2, ([115, 101, 99, 116, 105, 111, 110] : Str)), (3, ([112, 97, 114, 97, 103, 114, 97, 112, 104] : Str)), (4, ([116, 97, 98, 108, 101] : Str)), (5, ([114, 111, 119] : Str)), (6, ([99, 101, 108, 108] : Str)), (7, ([110, 111, 116, 101] : Str))]) (z := ([] : Str)) (xs := [([98, 111, 111, 107] : Str), ([112, 97, 114, 116] : Str), ([115, 101, 99, 116, 105, 111, 110] : Str), ([112, 97, 114, 97, 103, 114, 97, 112, 104] : Str), ([116, 97, 98, 108, 101] : Str), ([114, 111, 119] : Str), ([99, 101, 108, 108] : Str), ([110, 111, 116, 101] : Str)]) Try.underlying94 Try.sizeOf9 ze94 ⟨rfl, (.str rfl (by decide)), rfl, (.str rfl (by decide)), rfl, (.str rfl (by decide)), rfl, (.str rfl (by decide)), rfl, (.str rfl (by decide)), rfl, (.str rfl (by decide)), rfl, (.str rfl (by decide)), rfl, (.str rfl (by decide)), trivial⟩ (by simp) rfl) ?_
  refine WL.opR rfl (OpR.alloc 4 ze94) (fun b => ?_)
  refine WL.opU (OpR.storeB (b := b) 4 Try.sizeOf94 (Cellable.is (tA 8 tS) ([([98, 111, 111, 107] : Str), ([112, 97, 114, 116] : Str), ([115, 101, 99, 116, 105, 111, 110] : Str), ([112, 97, 114, 97, 103, 114, 97, 112, 104] : Str), ([116, 97, 98, 108, 101] : Str), ([114, 111, 119] : Str), ([99, 101, 108, 108] : Str), ([110, 111, 116, 101] : Str)])) rfl (.tmp rfl) (.tmp rfl)) (fun _ => ?_)
  refine WL.sealed (t := (tA 8 tS)) (u := ([([98, 111, 111, 107] : Str), ([112, 97, 114, 116] : Str), ([115, 101, 99, 116, 105, 111, 110] : Str), ([112, 97, 114, 97, 103, 114, 97, 112, 104] : Str), ([116, 97, 98, 108, 101] : Str), ([114, 111, 119] : Str), ([99, 101, 108, 108] : Str), ([110, 111, 116, 101] : Str)])) 4 4 rfl rfl ?_
  refine WL.ns ?_
  refine W.seq ?_
  refine W.sr ?_
  refine WL.mv rfl rfl ?_
  refine WL.op rfl (Op1.ltI (.tmp rfl) (.int (inR64.2 (by omega)))) ?_
  refine WL.mv rfl rfl ?_
  rcases bcases (decide (kind < (0 : Int))) with hb1 | hb1
  · have hp2 := of_decide_eq_true hb1
    rw [if_pos hp2] at hm
    refine WL.pass rfl rfl rfl rfl hb1 rfl rfl ?_
    refine WL.pass rfl rfl rfl rfl hb1 rfl rfl ?_
    refine WL.op rfl (Op1.pickT (.tmp rfl) hb1 .bool) ?_
    refine WL.ns ?_
    refine W.condT (.tmp rfl) ?_
    refine W.sr ?_
    refine WL.op rfl (Op1.assign (.str rfl (by decide))) ?_
    refine WL.op rfl (Op1.assign .bool) ?_
    refine WL.ns ?_
    cases hm
    exact W.ret2 () rfl rfl (.tmp rfl) (.tmp rfl) trivial
  · have hp2 := of_decide_eq_false hb1
    rw [if_neg hp2] at hm
    refine WL.run rfl rfl rfl rfl hb1 rfl rfl (Op1.move (.tmp rfl)) ?_
    refine WL.run rfl rfl rfl rfl hb1 rfl rfl (Op1.geI (.tmp rfl) (.int (inR64.2 (by omega)))) ?_
    refine WL.op rfl (Op1.pickF (.tmp rfl) hb1 (.tmp rfl)) ?_
    refine WL.ns ?_
    refine W.cond (.tmp rfl) (fun hc3 => ?_) (fun hc3 => ?_)
    · have hp4 := of_decide_eq_true hc3
      rw [if_pos hp4] at hm
      refine W.sr ?_
      refine WL.op rfl (Op1.assign (.str rfl (by decide))) ?_
      refine WL.op rfl (Op1.assign .bool) ?_
      refine WL.ns ?_
      cases hm
      exact W.ret2 () rfl rfl (.tmp rfl) (.tmp rfl) trivial
    · have hp4 := of_decide_eq_false hc3
      rw [if_neg hp4] at hm
      refine W.skip ?_
      refine WN.seq ?_
      refine W.sr ?_
      refine WL.mv rfl rfl ?_
      obtain ⟨v, hv5, hm⟩ := bind_some hm
      refine WL.op rfl (Op1.idxA hv5 Try.underlying94 Try.sizeOf9 (.tmp rfl) (.tmp rfl)) ?_
      refine WL.op rfl (Op1.load ty9 (.tmp rfl)) ?_
      refine WL.gv rfl rfl ?_
      refine WL.op rfl (Op1.assign .bool) ?_
      refine WL.ns ?_
      cases hm
      exact W.ret2 () rfl rfl (.tmp rfl) (.tmp rfl) trivial

theorem strings_Builder_Grow_spec (n : Int) (b : Nat) {u : Unit} (hm : growC n = some u) : FSpecR Try.prog 78 [Bp b 0, (tI .i64).is n] [(0, Bx 2 true 98 (bldA none [] b) b), (1, Own (tI .u8) 5 none 0)] (fun _ : Tok => Asn.eq (.tuple #[])) (fun k => [(0, Bx 2 true 98 (bldA k [] b) b), (1, Own (tI .u8) 5 k 0)]) :=
  FSpecR.bldGrow bld_used bld_fresh bld_Grow 0 1 n b hm

theorem strings_Builder_WriteString_spec (l m r : Str) (k : Tok) (b : Nat) (hm : appC l m = some r) : FSpecR Try.prog 79 [Bp b 0, tS.is m] [(0, Bx 2 true 98 (bldA k l b) b), (1, Own (tI .u8) 5 k l.length)] (fun _ : Tok => Asn.any) (fun kx => [(0, Bx 2 true 98 (bldA kx r b) b), (1, Own (tI .u8) 5 kx r.length)]) := by
  refine FSpecR.of Try.func79 rfl rfl rfl (fun g0 => ?_)
  refine W.sr ?_
  refine WL.op rfl (Op1.assign Opd.const) ?_
  refine WL.op rfl (Op1.assign Opd.const) ?_
  refine WL.nr ?_
  refine WL.mv rfl rfl ?_
  refine WL.opR rfl (OpR.call (us := [0]) Try.call92 (FSpecR.bldCheck bld_used bld_fresh 0 k l b) rfl ⟨(.tmp rfl), trivial⟩) (fun _ => ?_)
  refine WL.nr ?_
  refine WL.mv rfl rfl ?_
  refine WL.mv rfl rfl ?_
  refine WL.op rfl (Op1.nilCheckB (.tmp rfl)) ?_
  refine WL.op rfl (Op1.fieldAddrB (o := 0) Try.underlying98 rfl (fun w => ⟨0, Try.sizeOf96 w⟩) (.tmp rfl) rfl) ?_
  refine WL.op rfl (Op1.loadBld 0 Try.isAgg96 Try.sizeOf96 rfl (.tmp rfl)) ?_
  refine WL.mv rfl rfl ?_
  refine WL.opR rfl (OpR.appendS (key := 1) hm Try.underlying96 Try.underlying9 el5 (.tmp rfl) (.tmp rfl) rfl) (fun k2 => ?_)
  refine WL.op rfl (Op1.nilCheckB (.tmp rfl)) ?_
  refine WL.op rfl (Op1.fieldAddrB (o := 0) Try.underlying98 rfl (fun w => ⟨0, Try.sizeOf96 w⟩) (.tmp rfl) rfl) ?_
  refine WL.opU (OpR.storeBld (b := b) 0 Try.sizeOf96 rfl (.tmp rfl) (.tmp rfl)) (fun _ => ?_)
  refine WL.nr ?_
  refine WL.mv rfl rfl ?_
  refine WL.op rfl (Op1.lenS Try.underlying9 (.tmp rfl)) ?_
  refine WL.gv rfl rfl ?_
  refine WL.op rfl (Op1.assign Opd.const) ?_
  refine WL.nil ?_
  refine WN.seq ?_
  refine W.boxV (A' := bldA k2 r b) 0 rfl (fun _ _ => bldU_A) ?_
  exact W.retAny2 k2 rfl rfl ⟨rfl, rfl, rfl, rfl, trivial⟩

theorem strings_Builder_String_spec (k : Tok) (l : Str) (b : Nat) : FSpecR Try.prog 80 [Bp b 0] [(0, Bx 2 true 98 (bldA k l b) b), (1, Own (tI .u8) 5 k l.length)] (fun _ : Unit => tS.is l) (fun _ => []) :=
  FSpecR.bldString Try.underlying119 (by kernel_rfl) bld_str 0 1 k l b

theorem strings_Join_spec (elems : List Str) (sep : Str) (r : Str) (hm : M.strings_Join elems sep = some r) : FSpec Try.prog 63 [((tL tS).is elems), (tS.is sep)] (tS.is r) := by
  unfold M.strings_Join at hm
  refine FSpec.of Try.func63 rfl rfl rfl (fun g0 => ?_)
  refine W.sr ?_
  refine WL.op rfl (Op1.assign (.str rfl (by decide))) ?_
  refine WL.ns ?_
  refine W.seq ?_
  refine W.sr ?_
  refine WL.mv rfl rfl ?_
  refine WL.op rfl (Op1.lenL Try.underlying32 (.tmp rfl)) ?_
  refine WL.ns ?_
  refine W.block ?_
  refine W.sr ?_
  refine WL.op rfl (Op1.eqI (.tmp rfl) (.int (inR64.2 (by omega)))) ?_
  refine WL.gv rfl rfl ?_
  refine WL.ns ?_
  refine W.cond (.tmp rfl) (fun hc1 => ?_) (fun hc1 => ?_)
  · have hp2 := of_decide_eq_true hc1
    rw [if_pos hp2] at hm
    refine W.sr ?_
    refine WL.op rfl (Op1.assign (.str rfl (by decide))) ?_
    refine WL.ns ?_
    cases hm
    exact W.ret1 () rfl (.tmp rfl) trivial
  · have hp2 := of_decide_eq_false hc1
    rw [if_neg hp2] at hm
    refine W.sr ?_
    refine WL.op rfl (Op1.eqI (.tmp rfl) (.int (inR64.2 (by omega)))) ?_
    refine WL.gv rfl rfl ?_
    refine WL.ns ?_
    refine W.cond (.tmp rfl) (fun hc3 => ?_) (fun hc3 => ?_)
    · have hp4 := of_decide_eq_true hc3
      rw [if_pos hp4] at hm
      refine W.sr ?_
      refine WL.mv rfl rfl ?_
      obtain ⟨v, hv5, hm⟩ := bind_some hm
      refine WL.op rfl (Op1.idx hv5 Try.underlying32 Try.sizeOf9 (.tmp rfl) (.int (inR64.2 (by omega)))) ?_
      refine WL.op rfl (Op1.load ty9 (.tmp rfl)) ?_
      refine WL.gv rfl rfl ?_
      refine WL.ns ?_
      cases hm
      exact W.ret1 () rfl (.tmp rfl) trivial
    · have hp4 := of_decide_eq_false hc3
      rw [if_neg hp4] at hm
      refine W.skip ?_
      refine WN.block ?_
      refine WN.seq ?_
      refine W.sr ?_
      refine WL.op rfl (Op1.assign (.int (inR64.2 (by omega)))) ?_
      refine WL.ns ?_
      obtain ⟨s6, hs7, hk8⟩ := bind_some hm
      clear hm
      refine W.join (fun s : Int => s = s6) (fun s => [(5, ((tI .i64).is s)), (0, ((tL tS).is elems)), (1, (tS.is sep))]) (fun s => []) ?_ ?_
      · rintro n0_ hj58
        try dsimp only at hj58
        subst hj58
        have hm := hk8
        clear hk8
        try dsimp only at hm
        change W _ _ _ _ _ _ _ [(5, ((tI .i64).is n0_)), (0, ((tL tS).is elems)), (1, (tS.is sep))] []
        refine W.seq ?_
        refine W.sr ?_
        refine WL.mv rfl rfl ?_
        refine WL.op rfl (Op1.lenL Try.underlying32 (.tmp rfl)) ?_
        refine WL.op rfl (Op1.move (.int (inR64.2 (by omega)))) ?_
        refine WL.ns ?_
        refine W.block ?_
        obtain ⟨s22, hs23, hk24⟩ := bind_some hm
        clear hm
        refine W.loop (fun m (s : Int × List Str × List Str × Int) => m = s.2.2.1.length ∧ elems = s.2.1 ++ s.2.2.1 ∧ s.1 = (s.2.1.length : Int) ∧ M.strings_Join_loop1 s.2.2.1 s.2.2.2 = some s22) (fun s => [(41, ((tI .i64).is s.1)), (5, ((tI .i64).is s.2.2.2)), (0, ((tL tS).is elems)), (1, (tS.is sep)), (39, ((tL tS).is elems)), (40, ((tI .i64).is (elems.length : Int)))]) (fun s => []) elems.length ((0 : Int), [], elems, n0_) ⟨rfl, rfl, rfl, hs23⟩ ⟨Ent.q rfl, Ent.q rfl, Ent.q rfl, Ent.q rfl, Ent.q rfl, Ent.q rfl, trivial⟩ trivial ?_
        rintro m ⟨i, pre, rest3, n0_1⟩ ⟨hn28, hxs25, hi26, hm⟩
        try dsimp only at hn28 hxs25 hi26 hm
        change W _ _ _ _ _ _ _ [(41, ((tI .i64).is i)), (5, ((tI .i64).is n0_1)), (0, ((tL tS).is elems)), (1, (tS.is sep)), (39, ((tL tS).is elems)), (40, ((tI .i64).is (elems.length : Int)))] []
        refine W.lenL (s := 39) (.tmp rfl) fun hlen27 => ?_
        refine W.sr ?_
        refine WL.op rfl (Op1.ltI (.tmp rfl) (.tmp rfl)) ?_
        refine WL.ns ?_
        refine W.seq ?_
        refine W.cond (.tmp rfl) (fun hc30 => ?_) (fun hc30 => ?_)
        · have hp31 := of_decide_eq_true hc30
          obtain ⟨e, es, hrest33⟩ := range_more hxs25 hi26 hp31
          subst hrest33
          rw [M.strings_Join_loop1.eq_2] at hm
          refine W.skip ?_
          refine WN.seq ?_
          refine W.seq ?_
          refine W.block ?_
          refine W.sr ?_
          refine WL.op rfl (Op1.idxPre hxs25 hi26 Try.underlying32 Try.sizeOf9 (.tmp rfl) (.tmp rfl)) ?_
          refine WL.op rfl (Op1.load ty9 (.tmp rfl)) ?_
          refine WL.gv rfl rfl ?_
          refine WL.ns ?_
          refine W.seq ?_
          refine W.sr ?_
          refine WL.mv rfl rfl ?_
          refine WL.op rfl (Op1.lenS Try.underlying9 (.tmp rfl)) ?_
          refine WL.mv rfl rfl ?_
          obtain ⟨v6, hv34, hm⟩ := bind_some hm
          refine WL.op rfl (Op1.subC hv34 (.int (inR64.2 (by omega))) (.tmp rfl)) ?_
          refine WL.op rfl (Op1.gtI (.tmp rfl) (.tmp rfl)) ?_
          refine WL.ns ?_
          refine W.cond (.tmp rfl) (fun hc35 => ?_) (fun hc35 => ?_)
          · have hp36 := of_decide_eq_true hc35
            rw [if_pos hp36] at hm
            cases hm
          · have hp36 := of_decide_eq_false hc35
            rw [if_neg hp36] at hm
            refine W.skip ?_
            refine WN.seq ?_
            refine W.region ?_
            refine WL.mv rfl rfl ?_
            refine WL.mv rfl rfl ?_
            refine WL.op rfl (Op1.lenS Try.underlying9 (.tmp rfl)) ?_
            obtain ⟨v7, hv37, hm⟩ := bind_some hm
            refine WL.op rfl (Op1.addC hv37 (.tmp rfl) (.tmp rfl)) ?_
            refine WL.gv rfl rfl ?_
            refine WL.nil ?_
            refine WN.block ?_
            refine WN.seq ?_
            refine W.region ?_
            refine WL.op rfl (Op1.addI (.tmp rfl) (.int (inR64.2 (by omega))) (range_inR hi26 hp31 hlen27)) ?_
            refine WL.mv rfl rfl ?_
            refine WL.nil ?_
            exact WN.again es.length (i + 1, pre ++ [e], es, v7) (range_lt hn28) ⟨rfl, range_step hxs25, range_idx hi26, hm⟩ ⟨Ent.q rfl, Ent.q rfl, Ent.q rfl, Ent.q rfl, Ent.q rfl, Ent.q rfl, trivial⟩ trivial
        · have hrest33 := range_end hxs25 hi26 (of_decide_eq_false hc30)
          subst hrest33
          rw [M.strings_Join_loop1.eq_1] at hm
          refine W.exit rfl ?_
          have hr38 := Option.some.inj hm
          clear hm
          subst hr38
          have hm := hk24
          try dsimp only at hm
          refine WN.seq ?_
          refine W.sr ?_
          refine WL.addNil (t := (tI .u8)) (E := 5) 1000008 ?_
          refine WL.opR rfl (OpR.allocBld 8 Try.zeroValue98) (fun b => ?_)
          refine WL.nr ?_
          refine WL.mv rfl rfl ?_
          obtain ⟨_, hv39, hm⟩ := bind_some hm
          refine WL.weakR (res' := [(8, (Bx 2 true 98 (bldA (none : Tok) ([] : Str) b) b)), (1000008, Own (tI .u8) 5 (none : Tok) ([] : Str).length)]) ⟨rfl, rfl, ⟨rfl, rfl, trivial⟩⟩ ?_
          refine WL.opR rfl (OpR.call (us := [8, 1000008]) (A := fun kx : Tok => (Asn.eq (.tuple #[]))) Try.call78 (FSpecR.keys (rin' := [(8, (Bx 2 true 98 (bldA (none : Tok) ([] : Str) b) b)), (1000008, Own (tI .u8) 5 (none : Tok) ([] : Str).length)]) (out' := fun kx : Tok => [(8, (Bx 2 true 98 (bldA kx ([] : Str) b) b)), (1000008, Own (tI .u8) 5 kx ([] : Str).length)]) (strings_Builder_Grow_spec _ _ hv39) rfl (fun _ => rfl)) rfl ⟨(.tmp rfl), (.tmp rfl), trivial⟩) (fun k => ?_)
          refine WL.nr ?_
          refine WL.mv rfl rfl ?_
          obtain ⟨v8, hv40, hm⟩ := bind_some hm
          refine WL.op rfl (Op1.idx hv40 Try.underlying32 Try.sizeOf9 (.tmp rfl) (.int (inR64.2 (by omega)))) ?_
          refine WL.op rfl (Op1.load ty9 (.tmp rfl)) ?_
          obtain ⟨b1, hv41, hm⟩ := bind_some hm
          refine WL.weakR (res' := [(8, (Bx 2 true 98 (bldA k ([] : Str) b) b)), (1000008, Own (tI .u8) 5 k ([] : Str).length)]) ⟨rfl, rfl, ⟨rfl, rfl, trivial⟩⟩ ?_
          refine WL.opR rfl (OpR.call (us := [8, 1000008]) (A := fun kx : Tok => Asn.any) Try.call79 (FSpecR.keys (rin' := [(8, (Bx 2 true 98 (bldA k ([] : Str) b) b)), (1000008, Own (tI .u8) 5 k ([] : Str).length)]) (out' := fun kx : Tok => [(8, (Bx 2 true 98 (bldA kx b1 b) b)), (1000008, Own (tI .u8) 5 kx b1.length)]) (strings_Builder_WriteString_spec _ _ _ _ _ hv41) rfl (fun _ => rfl)) rfl ⟨(.tmp rfl), (.tmp rfl), trivial⟩) (fun k1 => ?_)
          refine WL.ns ?_
          refine W.seq ?_
          refine W.sr ?_
          refine WL.mv rfl rfl ?_
          obtain ⟨v9, hv42, hm⟩ := bind_some hm
          refine WL.op rfl (Op1.slcLo hv42 Try.underlying32 Try.sizeOf9 (.tmp rfl) (.int (inR64.2 (by omega)))) ?_
          refine WL.op rfl (Op1.lenL Try.underlying32 (.tmp rfl)) ?_
          refine WL.op rfl (Op1.move (.int (inR64.2 (by omega)))) ?_
          refine WL.ns ?_
          refine W.block ?_
          obtain ⟨s43, hs44, hk45⟩ := bind_some hm
          clear hm
          refine W.loop (fun m (s : Int × List Str × List Str × ((Str) × Tok)) => m = s.2.2.1.length ∧ v9 = s.2.1 ++ s.2.2.1 ∧ s.1 = (s.2.1.length : Int) ∧ M.strings_Join_loop2 sep s.2.2.1 s.2.2.2.1 = some s43) (fun s => [(65, ((tI .i64).is s.1)), (1, (tS.is sep)), (8, (Bp b 0)), (63, ((tL tS).is v9)), (64, ((tI .i64).is (v9.length : Int)))]) (fun s => [(1000008, Own (tI .u8) 5 s.2.2.2.2 s.2.2.2.1.length), (8, (Bx 2 true 98 (bldA s.2.2.2.2 s.2.2.2.1 b) b))]) v9.length ((0 : Int), [], v9, (b1, k1)) ⟨rfl, rfl, rfl, hs44⟩ ⟨Ent.q rfl, Ent.q rfl, Ent.q rfl, Ent.q rfl, Ent.q rfl, trivial⟩ ⟨rfl, rfl, ⟨rfl, rfl, trivial⟩⟩ ?_
          rintro m ⟨i1, pre1, rest2, ⟨b2, k2⟩⟩ ⟨hn49, hxs46, hi47, hm⟩
          try dsimp only at hn49 hxs46 hi47 hm
          change W _ _ _ _ _ _ _ [(65, ((tI .i64).is i1)), (1, (tS.is sep)), (8, (Bp b 0)), (63, ((tL tS).is v9)), (64, ((tI .i64).is (v9.length : Int)))] [(1000008, Own (tI .u8) 5 k2 b2.length), (8, (Bx 2 true 98 (bldA k2 b2 b) b))]
          refine W.lenL (s := 63) (.tmp rfl) fun hlen48 => ?_
          refine W.sr ?_
          refine WL.op rfl (Op1.ltI (.tmp rfl) (.tmp rfl)) ?_
          refine WL.ns ?_
          refine W.seq ?_
          refine W.cond (.tmp rfl) (fun hc51 => ?_) (fun hc51 => ?_)
          · have hp52 := of_decide_eq_true hc51
            obtain ⟨e1, es1, hrest54⟩ := range_more hxs46 hi47 hp52
            subst hrest54
            rw [M.strings_Join_loop2.eq_2] at hm
            refine W.skip ?_
            refine WN.seq ?_
            refine W.seq ?_
            refine W.block ?_
            refine W.sr ?_
            refine WL.op rfl (Op1.idxPre hxs46 hi47 Try.underlying32 Try.sizeOf9 (.tmp rfl) (.tmp rfl)) ?_
            refine WL.op rfl (Op1.load ty9 (.tmp rfl)) ?_
            refine WL.gv rfl rfl ?_
            refine WL.nr ?_
            refine WL.mv rfl rfl ?_
            obtain ⟨b3, hv55, hm⟩ := bind_some hm
            refine WL.weakR (res' := [(8, (Bx 2 true 98 (bldA k2 b2 b) b)), (1000008, Own (tI .u8) 5 k2 b2.length)]) ⟨rfl, rfl, ⟨rfl, rfl, trivial⟩⟩ ?_
            refine WL.opR rfl (OpR.call (us := [8, 1000008]) (A := fun kx : Tok => Asn.any) Try.call79 (FSpecR.keys (rin' := [(8, (Bx 2 true 98 (bldA k2 b2 b) b)), (1000008, Own (tI .u8) 5 k2 b2.length)]) (out' := fun kx : Tok => [(8, (Bx 2 true 98 (bldA kx b3 b) b)), (1000008, Own (tI .u8) 5 kx b3.length)]) (strings_Builder_WriteString_spec _ _ _ _ _ hv55) rfl (fun _ => rfl)) rfl ⟨(.tmp rfl), (.tmp rfl), trivial⟩) (fun k3 => ?_)
            refine WL.nr1 ?_
            refine WL.mv rfl rfl ?_
            obtain ⟨b4, hv56, hm⟩ := bind_some hm
            refine WL.weakR (res' := [(8, (Bx 2 true 98 (bldA k3 b3 b) b)), (1000008, Own (tI .u8) 5 k3 b3.length)]) ⟨rfl, rfl, ⟨rfl, rfl, trivial⟩⟩ ?_
            refine WL.opR rfl (OpR.call (us := [8, 1000008]) (A := fun kx : Tok => Asn.any) Try.call79 (FSpecR.keys (rin' := [(8, (Bx 2 true 98 (bldA k3 b3 b) b)), (1000008, Own (tI .u8) 5 k3 b3.length)]) (out' := fun kx : Tok => [(8, (Bx 2 true 98 (bldA kx b4 b) b)), (1000008, Own (tI .u8) 5 kx b4.length)]) (strings_Builder_WriteString_spec _ _ _ _ _ hv56) rfl (fun _ => rfl)) rfl ⟨(.tmp rfl), (.tmp rfl), trivial⟩) (fun k4 => ?_)
            refine WL.nil ?_
            refine WN.block ?_
            refine WN.seq ?_
            refine W.region ?_
            refine WL.op rfl (Op1.addI (.tmp rfl) (.int (inR64.2 (by omega))) (range_inR hi47 hp52 hlen48)) ?_
            refine WL.mv rfl rfl ?_
            refine WL.nil ?_
            exact WN.again es1.length (i1 + 1, pre1 ++ [e1], es1, (b4, k4)) (range_lt hn49) ⟨rfl, range_step hxs46, range_idx hi47, hm⟩ ⟨Ent.q rfl, Ent.q rfl, Ent.q rfl, Ent.q rfl, Ent.q rfl, trivial⟩ ⟨rfl, rfl, ⟨rfl, rfl, trivial⟩⟩
          · have hrest54 := range_end hxs46 hi47 (of_decide_eq_false hc51)
            subst hrest54
            rw [M.strings_Join_loop2.eq_1] at hm
            refine W.exit rfl ?_
            have hr57 := Option.some.inj hm
            clear hm
            subst hr57
            have hm := hk45
            try dsimp only at hm
            refine WN.seq ?_
            refine W.sr ?_
            refine WL.weakR (res' := [(8, (Bx 2 true 98 (bldA k2 b2 b) b)), (1000008, Own (tI .u8) 5 k2 b2.length)]) ⟨rfl, rfl, ⟨rfl, rfl, trivial⟩⟩ ?_
            refine WL.opR rfl (OpR.call (us := [8, 1000008]) (A := fun kx : Unit => tS.is b2) Try.call80 (FSpecR.keys (rin' := [(8, (Bx 2 true 98 (bldA k2 b2 b) b)), (1000008, Own (tI .u8) 5 k2 b2.length)]) (out' := fun kx : Unit => []) (strings_Builder_String_spec _ _ _) rfl (fun _ => rfl)) rfl ⟨(.tmp rfl), trivial⟩) (fun _ => ?_)
            refine WL.gv rfl rfl ?_
            refine WL.ns ?_
            cases hm
            exact W.ret1 () rfl (.tmp rfl) trivial
      · have hm := hs7
        clear hs7
        refine W.sr ?_
        refine WL.mv rfl rfl ?_
        refine WL.op rfl (Op1.lenS Try.underlying9 (.tmp rfl)) ?_
        refine WL.op rfl (Op1.gtI (.tmp rfl) (.int (inR64.2 (by omega)))) ?_
        refine WL.ns ?_
        refine W.cond (.tmp rfl) (fun hc9 => ?_) (fun hc9 => ?_)
        · have hp10 := of_decide_eq_true hc9
          rw [if_pos hp10] at hm
          obtain ⟨s11, hs12, hk13⟩ := bind_some hm
          clear hm
          refine W.join (fun s : Unit => s = s11) (fun s => [(0, ((tL tS).is elems)), (1, (tS.is sep)), (5, ((tI .i64).is (0 : Int)))]) (fun s => []) ?_ ?_
          · rintro _ hj21
            try dsimp only at hj21
            subst hj21
            have hm := hk13
            clear hk13
            try dsimp only at hm
            change W _ _ _ _ _ _ _ [(0, ((tL tS).is elems)), (1, (tS.is sep)), (5, ((tI .i64).is (0 : Int)))] []
            refine W.region ?_
            refine WL.mv rfl rfl ?_
            refine WL.mv rfl rfl ?_
            refine WL.op rfl (Op1.lenS Try.underlying9 (.tmp rfl)) ?_
            refine WL.mv rfl rfl ?_
            refine WL.op rfl (Op1.lenL Try.underlying32 (.tmp rfl)) ?_
            obtain ⟨v3, hv18, hm⟩ := bind_some hm
            refine WL.op rfl (Op1.subC hv18 (.tmp rfl) (.int (inR64.2 (by omega)))) ?_
            obtain ⟨v4, hv19, hm⟩ := bind_some hm
            refine WL.op rfl (Op1.mulC hv19 (.tmp rfl) (.tmp rfl)) ?_
            obtain ⟨v5, hv20, hm⟩ := bind_some hm
            refine WL.op rfl (Op1.addC hv20 (.tmp rfl) (.tmp rfl)) ?_
            refine WL.gv rfl rfl ?_
            refine WL.nil ?_
            exact WN.meet v5 (Option.some.inj hm) ⟨Ent.q rfl, Ent.q rfl, Ent.q rfl, trivial⟩ trivial
          · have hm := hs12
            clear hs12
            refine W.sr ?_
            refine WL.mv rfl rfl ?_
            refine WL.op rfl (Op1.lenS Try.underlying9 (.tmp rfl)) ?_
            refine WL.mv rfl rfl ?_
            refine WL.op rfl (Op1.lenL Try.underlying32 (.tmp rfl)) ?_
            obtain ⟨v1, hv14, hm⟩ := bind_some hm
            refine WL.op rfl (Op1.subC hv14 (.tmp rfl) (.int (inR64.2 (by omega)))) ?_
            obtain ⟨v2, hv15, hm⟩ := bind_some hm
            refine WL.op rfl (Op1.quoC hv15 (.int (inR64.2 (by omega))) (.tmp rfl)) ?_
            refine WL.op rfl (Op1.geI (.tmp rfl) (.tmp rfl)) ?_
            refine WL.ns ?_
            refine W.cond (.tmp rfl) (fun hc16 => ?_) (fun hc16 => ?_)
            · have hp17 := of_decide_eq_true hc16
              rw [if_pos hp17] at hm
              cases hm
            · have hp17 := of_decide_eq_false hc16
              rw [if_neg hp17] at hm
              refine W.skip ?_
              exact WN.meet () (Option.some.inj hm) ⟨Ent.q rfl, Ent.q rfl, Ent.q rfl, trivial⟩ trivial
        · have hp10 := of_decide_eq_false hc9
          rw [if_neg hp10] at hm
          refine W.skip ?_
          exact WN.meet (0 : Int) (Option.some.inj hm) ⟨Ent.q rfl, Ent.q rfl, Ent.q rfl, trivial⟩ trivial

theorem address_Format_spec (n : Nat) (p : List api_Step) (r : Str) (hm : M.address_Format n p = some r) : FSpec Try.prog 38 [((tL tapi_Step).is p)] (tS.is r) := by
  unfold M.address_Format at hm
  refine FSpec.of Try.func38 rfl rfl rfl (fun g0 => ?_)
  refine W.sr ?_
  refine WL.op rfl (Op1.assign (.str rfl (by decide))) ?_
  refine WL.ns ?_
  refine W.seq ?_
  refine W.sr ?_
  refine WL.mv rfl rfl ?_
  obtain ⟨valid, hv1, hm⟩ := bind_some hm
  refine WL.op rfl (Op1.call Try.call60 (address_Valid_spec _ _ _ hv1) ⟨(.tmp rfl), trivial⟩) ?_
  refine WL.op rfl (Op1.notB (.tmp rfl)) ?_
  refine WL.ns ?_
  refine W.cond (.tmp rfl) (fun hc2 => ?_) (fun hc2 => ?_)
  · have hp3 := not_pos hc2
    rw [if_pos hp3] at hm
    refine W.sr ?_
    refine WL.op rfl (Op1.assign (.str rfl (by decide))) ?_
    refine WL.ns ?_
    cases hm
    exact W.ret1 () rfl (.tmp rfl) trivial
  · have hp3 := not_neg hc2
    rw [if_neg hp3] at hm
    refine W.skip ?_
    refine WN.seq ?_
    refine W.sr ?_
    refine WL.addNil (t := tS) (E := 9) 3 ?_
    refine WL.op rfl (Op1.assign (Opd.nilO (t := tS))) ?_
    refine WL.ns ?_
    refine W.seq ?_
    refine W.sr ?_
    refine WL.mv rfl rfl ?_
    refine WL.op rfl (Op1.lenL Try.underlying28 (.tmp rfl)) ?_
    refine WL.op rfl (Op1.move (.int (inR64.2 (by omega)))) ?_
    refine WL.ns ?_
    refine W.block ?_
    obtain ⟨s4, hs5, hk6⟩ := bind_some hm
    clear hm
    refine W.loop (fun m (s : Int × List api_Step × List api_Step × (((List Str)) × Tok)) => m = s.2.2.1.length ∧ p = s.2.1 ++ s.2.2.1 ∧ s.1 = (s.2.1.length : Int) ∧ M.address_Format_loop1 s.2.2.1 s.2.2.2.1 = some s4) (fun s => [(13, ((tI .i64).is s.1)), (3, (tO tS s.2.2.2.2 s.2.2.2.1)), (11, ((tL tapi_Step).is p)), (12, ((tI .i64).is (p.length : Int)))]) (fun s => [(3, Own tS 9 s.2.2.2.2 s.2.2.2.1.length)]) p.length ((0 : Int), [], p, (([] : List Str), (none : Tok))) ⟨rfl, rfl, rfl, hs5⟩ ⟨Ent.q rfl, Ent.q rfl, Ent.q rfl, Ent.q rfl, trivial⟩ ⟨rfl, rfl, trivial⟩ ?_
    rintro m ⟨i, pre, rest1, ⟨words, k⟩⟩ ⟨hn10, hxs7, hi8, hm⟩
    try dsimp only at hn10 hxs7 hi8 hm
    change W _ _ _ _ _ _ _ [(13, ((tI .i64).is i)), (3, (tO tS k words)), (11, ((tL tapi_Step).is p)), (12, ((tI .i64).is (p.length : Int)))] [(3, Own tS 9 k words.length)]
    refine W.lenL (s := 11) (.tmp rfl) fun hlen9 => ?_
    refine W.sr ?_
    refine WL.op rfl (Op1.ltI (.tmp rfl) (.tmp rfl)) ?_
    refine WL.ns ?_
    refine W.seq ?_
    refine W.cond (.tmp rfl) (fun hc12 => ?_) (fun hc12 => ?_)
    · have hp13 := of_decide_eq_true hc12
      obtain ⟨e, es, hrest15⟩ := range_more hxs7 hi8 hp13
      subst hrest15
      rw [M.address_Format_loop1.eq_2] at hm
      refine W.skip ?_
      refine WN.seq ?_
      refine W.seq ?_
      refine W.block ?_
      refine W.sr ?_
      refine WL.op rfl (Op1.idxPre hxs7 hi8 Try.underlying28 Try.sizeOf63 (.tmp rfl) (.tmp rfl)) ?_
      refine WL.op rfl (Op1.load ty63 (.tmp rfl)) ?_
      refine WL.opR rfl (OpR.alloc 5 ze63) (fun b => ?_)
      refine WL.opU (OpR.storeB (b := b) 5 Try.sizeOf63 (Cellable.is tapi_Step e) rfl (.tmp rfl) (.tmp rfl)) (fun _ => ?_)
      refine WL.sealed (t := tapi_Step) (u := e) 5 5 rfl rfl ?_
      refine WL.nr ?_
      refine WL.op rfl (Op1.fieldAddr Try.underlying63 rfl (fun w => ⟨0, Try.sizeOf3 w⟩) fapi_Step_0 (.tmp rfl)) ?_
      refine WL.op rfl (Op1.load ty3 (.tmp rfl)) ?_
      obtain ⟨name, hv16, hm⟩ := bind_some hm
      refine WL.op rfl (Op1.call Try.call61 (address_name_spec _ _ hv16) ⟨(.tmp rfl), trivial⟩) ?_
      refine WL.mv rfl rfl ?_
      refine WL.op rfl (Op1.extract0 (.tmp rfl)) ?_
      refine WL.op rfl (Op1.extract1 (.tmp rfl)) ?_
      refine WL.gv rfl rfl ?_
      refine WL.gv rfl rfl ?_
      refine WL.nr ?_
      refine WL.mv rfl rfl ?_
      refine WL.mv rfl rfl ?_
      refine WL.op rfl (Op1.buildSlice (n := 1) (ys := [(0, name.1)]) (z := ([] : Str)) (xs := [name.1]) Try.underlying32 el9 ze9 ⟨rfl, (.tmp rfl), trivial⟩ (by simp) (by decide) rfl) ?_
      obtain ⟨words1, hv17, hm⟩ := bind_some hm
      refine WL.opR rfl (OpR.appC (key := 3) hv17 Try.underlying32 el9 (.tmp rfl) (.tmp rfl) rfl) (fun k1 => ?_)
      refine WL.gv rfl rfl ?_
      refine WL.nr ?_
      refine WL.op rfl (Op1.load ty63 (.tmp rfl)) ?_
      obtain ⟨book, hv18, hm⟩ := bind_some hm
      refine WL.op rfl (Op1.call Try.call62 (address_book_spec _ _ hv18) ⟨(.tmp rfl), trivial⟩) ?_
      refine WL.op rfl (Op1.notB (.tmp rfl)) ?_
      refine WL.ns ?_
      refine W.cond (.tmp rfl) (fun hc19 => ?_) (fun hc19 => ?_)
      · have hp20 := not_pos hc19
        rw [if_pos hp20] at hm
        refine W.region ?_
        refine WL.mv rfl rfl ?_
        refine WL.op rfl (Op1.fieldAddr Try.underlying63 rfl (fun w => ⟨0, Try.sizeOf9 w⟩) fapi_Step_1 (.tmp rfl)) ?_
        refine WL.op rfl (Op1.load ty9 (.tmp rfl)) ?_
        refine WL.op rfl (Op1.buildSlice (n := 1) (ys := [(0, e.Label)]) (z := ([] : Str)) (xs := [e.Label]) Try.underlying32 el9 ze9 ⟨rfl, (.tmp rfl), trivial⟩ (by simp) (by decide) rfl) ?_
        obtain ⟨words2, hv21, hm⟩ := bind_some hm
        refine WL.opR rfl (OpR.appC (key := 3) hv21 Try.underlying32 el9 (.tmp rfl) (.tmp rfl) rfl) (fun k2 => ?_)
        refine WL.gv rfl rfl ?_
        refine WL.nil ?_
        refine WN.block ?_
        refine WN.seq ?_
        refine W.region ?_
        refine WL.op rfl (Op1.addI (.tmp rfl) (.int (inR64.2 (by omega))) (range_inR hi8 hp13 hlen9)) ?_
        refine WL.mv rfl rfl ?_
        refine WL.nil ?_
        exact WN.again es.length (i + 1, pre ++ [e], es, (words2, k2)) (range_lt hn10) ⟨rfl, range_step hxs7, range_idx hi8, hm⟩ ⟨Ent.q rfl, Ent.q rfl, Ent.q rfl, Ent.q rfl, trivial⟩ ⟨rfl, rfl, trivial⟩
      · have hp20 := not_neg hc19
        rw [if_neg hp20] at hm
        refine W.skip ?_
        refine WN.block ?_
        refine WN.seq ?_
        refine W.region ?_
        refine WL.op rfl (Op1.addI (.tmp rfl) (.int (inR64.2 (by omega))) (range_inR hi8 hp13 hlen9)) ?_
        refine WL.mv rfl rfl ?_
        refine WL.nil ?_
        exact WN.again es.length (i + 1, pre ++ [e], es, (words1, k1)) (range_lt hn10) ⟨rfl, range_step hxs7, range_idx hi8, hm⟩ ⟨Ent.q rfl, Ent.q rfl, Ent.q rfl, Ent.q rfl, trivial⟩ ⟨rfl, rfl, trivial⟩
    · have hrest15 := range_end hxs7 hi8 (of_decide_eq_false hc12)
      subst hrest15
      rw [M.address_Format_loop1.eq_1] at hm
      refine W.exit rfl ?_
      have hr22 := Option.some.inj hm
      clear hm
      subst hr22
      have hm := hk6
      try dsimp only at hm
      refine WN.seq ?_
      refine W.sr ?_
      refine WL.mv rfl rfl ?_
      obtain ⟨join, hv23, hm⟩ := bind_some hm
      refine WL.op rfl (Op1.call Try.call63 (strings_Join_spec _ _ _ hv23) ⟨(Opd.own (.tmp rfl)), (.str rfl (by decide)), trivial⟩) ?_
      refine WL.gv rfl rfl ?_
      refine WL.ns ?_
      cases hm
      exact W.ret1 () rfl (.tmp rfl) trivial

theorem law07_awake_spec (n : Nat)  (r : Bool) (hm : M.law07_awake n  = some r) : FSpec Try.prog 22 [] (tB.is r) := by
  unfold M.law07_awake at hm
  refine FSpec.of Try.func22 rfl rfl rfl (fun g0 => ?_)
  refine W.sr ?_
  refine WL.op rfl (Op1.assign .bool) ?_
  refine WL.nr ?_
  obtain ⟨book, hv1, hm⟩ := bind_some hm
  refine WL.op rfl (Op1.call Try.call35 (law07_book_spec _ hv1) trivial) ?_
  refine WL.op rfl (Op1.build (s := tapi_Step) (x := (⟨(2 : Int), ([53] : Str)⟩ : api_Step)) zapi_Step_f rfl Try.underlying63 (zapi_Step_sz _ Try.underlying63) ze63 ⟨_, (tI .i64), (2 : Int), _, _, rfl, Try.sizeOf3, (.int (inR64.2 (by omega))), sapi_Step_0, ⟨_, tS, ([53] : Str), _, _, rfl, Try.sizeOf9, (.str rfl (by decide)), sapi_Step_1, rfl⟩⟩) ?_
  refine WL.op rfl (Op1.build (s := tapi_Step) (x := (⟨(3 : Int), ([50] : Str)⟩ : api_Step)) zapi_Step_f rfl Try.underlying63 (zapi_Step_sz _ Try.underlying63) ze63 ⟨_, (tI .i64), (3 : Int), _, _, rfl, Try.sizeOf3, (.int (inR64.2 (by omega))), sapi_Step_0, ⟨_, tS, ([50] : Str), _, _, rfl, Try.sizeOf9, (.str rfl (by decide)), sapi_Step_1, rfl⟩⟩) ?_
  refine WL.op rfl (Op1.buildSlice (n := 2) (ys := [(0, (⟨(2 : Int), ([53] : Str)⟩ : api_Step)), (1, (⟨(3 : Int), ([50] : Str)⟩ : api_Step))]) (z := zapi_Step) (xs := [(⟨(2 : Int), ([53] : Str)⟩ : api_Step), (⟨(3 : Int), ([50] : Str)⟩ : api_Step)]) Try.underlying28 el63 ze63 ⟨rfl, (.tmp rfl), rfl, (.tmp rfl), trivial⟩ (by simp) (by decide) rfl) ?_
  obtain ⟨findon, hv2, hm⟩ := bind_some hm
  refine WL.op rfl (Op1.call Try.call26 (address_FindOne_spec _ _ _ _ hv2) ⟨(.tmp rfl), (.tmp rfl), trivial⟩) ?_
  refine WL.mv rfl rfl ?_
  refine WL.op rfl (Op1.extract0 (.tmp rfl)) ?_
  refine WL.op rfl (Op1.extract1 (.tmp rfl)) ?_
  refine WL.opR rfl (OpR.alloc 1 ze23) (fun b => ?_)
  refine WL.opU (OpR.storeB (b := b) 1 Try.sizeOf23 (Cellable.is tapi_Id findon.1) rfl (.tmp rfl) (.tmp rfl)) (fun _ => ?_)
  refine WL.sealed (t := tapi_Id) (u := findon.1) 1 1 rfl rfl ?_
  refine WL.gv rfl rfl ?_
  refine WL.ns ?_
  refine W.seq ?_
  obtain ⟨book1, hv3, hm⟩ := bind_some hm
  obtain ⟨shorte, hv4, hm⟩ := bind_some hm
  refine W.weakR (res' := []) trivial ?_
  refine W.drawM [.c (tapi_Unit.is book1), .c (tapi_Id.is findon.1), .c (Asn.tuple2 ((tL tapi_Step).is shorte.1) (tB.is shorte.2)), .c (Asn.tuple2 ((tL tapi_Step).is shorte.1) (tB.is shorte.2)), .c ((tL tapi_Step).is shorte.1), .c (tB.is shorte.2), .c ((tL tapi_Step).is shorte.1), .c (tB.is shorte.2)] [([], []), ([], [1]), ([0, 1], []), ([2], []), ([3], []), ([3], []), ([4], []), ([5], [])] [] [[], [], [], [], [], [], [], []] (fun m cv => match m with  | _ => []) (fun _ => none) Try.mixed rfl rfl rfl rfl rfl ⟨fun _ _ _ _ => rfl, ⟨fun _ _ _ _ => rfl, ⟨fun _ _ _ _ => rfl, ⟨fun _ _ _ _ => rfl, ⟨fun _ _ _ _ => rfl, ⟨fun _ _ _ _ => rfl, ⟨fun _ _ _ _ => rfl, ⟨fun _ _ _ _ => rfl, trivial⟩⟩⟩⟩⟩⟩⟩⟩ rfl ⟨.inr ⟨fun cv => [], (fun _ _ _ _ => trivial), fun cv => Op1.call Try.call35 (law07_book_spec _ hv3) trivial⟩, ⟨.inr ⟨fun cv => [], (fun _ _ _ _ => trivial), fun cv => Op1.load ty23 (.tmp rfl)⟩, ⟨.inr ⟨fun cv => [], (fun _ _ _ _ => trivial), fun cv => Op1.call Try.call36 (address_Shortest_spec _ _ _ _ hv4) ⟨(.tmp rfl), (.tmp rfl), trivial⟩⟩, ⟨.inr ⟨fun cv => [], (fun _ _ _ _ => trivial), fun cv => Op1.move (.tmp rfl)⟩, ⟨.inr ⟨fun cv => [], (fun _ _ _ _ => trivial), fun cv => Op1.extract0 (.tmp rfl)⟩, ⟨.inr ⟨fun cv => [], (fun _ _ _ _ => trivial), fun cv => Op1.extract1 (.tmp rfl)⟩, ⟨.inr ⟨fun cv => [], (fun _ _ _ _ => trivial), fun cv => Op1.assign (.tmp rfl)⟩, ⟨.inr ⟨fun cv => [], (fun _ _ _ _ => trivial), fun cv => Op1.assign (.tmp rfl)⟩, trivial⟩⟩⟩⟩⟩⟩⟩⟩ trivial (fun cv => ?_)
  refine WN.seq ?_
  refine W.seq ?_
  obtain ⟨book2, hv5, hm⟩ := bind_some hm
  obtain ⟨full, hv6, hm⟩ := bind_some hm
  refine W.weakR (res' := []) trivial ?_
  refine W.drawM [.c (tapi_Unit.is book2), .c (tapi_Id.is findon.1), .c (Asn.tuple2 ((tL tapi_Step).is full.1) (tB.is full.2)), .c (Asn.tuple2 ((tL tapi_Step).is full.1) (tB.is full.2)), .c ((tL tapi_Step).is full.1), .c (tB.is full.2), .c ((tL tapi_Step).is full.1), .c (tB.is full.2)] [([], []), ([], [1]), ([0, 1], []), ([2], []), ([3], []), ([3], []), ([4], []), ([5], [])] [] [[], [], [], [], [], [], [], []] (fun m cv1 => match m with  | _ => []) (fun _ => none) Try.mixed rfl rfl rfl rfl rfl ⟨fun _ _ _ _ => rfl, ⟨fun _ _ _ _ => rfl, ⟨fun _ _ _ _ => rfl, ⟨fun _ _ _ _ => rfl, ⟨fun _ _ _ _ => rfl, ⟨fun _ _ _ _ => rfl, ⟨fun _ _ _ _ => rfl, ⟨fun _ _ _ _ => rfl, trivial⟩⟩⟩⟩⟩⟩⟩⟩ rfl ⟨.inr ⟨fun cv1 => [], (fun _ _ _ _ => trivial), fun cv1 => Op1.call Try.call35 (law07_book_spec _ hv5) trivial⟩, ⟨.inr ⟨fun cv1 => [], (fun _ _ _ _ => trivial), fun cv1 => Op1.load ty23 (.tmp rfl)⟩, ⟨.inr ⟨fun cv1 => [], (fun _ _ _ _ => trivial), fun cv1 => Op1.call Try.call37 (address_Full_spec _ _ _ _ hv6) ⟨(.tmp rfl), (.tmp rfl), trivial⟩⟩, ⟨.inr ⟨fun cv1 => [], (fun _ _ _ _ => trivial), fun cv1 => Op1.move (.tmp rfl)⟩, ⟨.inr ⟨fun cv1 => [], (fun _ _ _ _ => trivial), fun cv1 => Op1.extract0 (.tmp rfl)⟩, ⟨.inr ⟨fun cv1 => [], (fun _ _ _ _ => trivial), fun cv1 => Op1.extract1 (.tmp rfl)⟩, ⟨.inr ⟨fun cv1 => [], (fun _ _ _ _ => trivial), fun cv1 => Op1.assign (.tmp rfl)⟩, ⟨.inr ⟨fun cv1 => [], (fun _ _ _ _ => trivial), fun cv1 => Op1.assign (.tmp rfl)⟩, trivial⟩⟩⟩⟩⟩⟩⟩⟩ trivial (fun cv1 => ?_)
  refine WN.seq ?_
  refine W.sr ?_
  refine WL.mv rfl rfl ?_
  refine WL.op rfl (Op1.eqI (.tmp rfl) (.int (inR64.2 (by omega)))) ?_
  refine WL.mv rfl rfl ?_
  rcases bcases (decide (findon.2 = (0 : Int))) with hb7 | hb7
  · have hp8 := of_decide_eq_true hb7
    rw [if_pos hp8] at hm
    refine WL.run rfl rfl rfl rfl hb7 rfl rfl (Op1.load ty23 (.tmp rfl)) ?_
    refine WL.run rfl rfl rfl rfl hb7 rfl rfl (Op1.build (s := tapi_Id) (x := (⟨(1 : Int), (0 : Int), (2 : Int)⟩ : api_Id)) zapi_Id_f rfl Try.underlying23 (zapi_Id_sz _ Try.underlying23) ze23 ⟨_, (tI .i64), (1 : Int), _, _, rfl, Try.sizeOf3, (.int (inR64.2 (by omega))), sapi_Id_0, ⟨_, (tI .i64), (2 : Int), _, _, rfl, Try.sizeOf3, (.int (inR64.2 (by omega))), sapi_Id_2, rfl⟩⟩) ?_
    refine WL.run rfl rfl rfl rfl hb7 rfl rfl (Op1.eqSt (D := 2) rfl (by decide) eg23 eq23 (.tmp rfl) (.tmp rfl)) ?_
    refine WL.op rfl (Op1.pickT (.tmp rfl) hb7 (.tmp rfl)) ?_
    refine WL.mv rfl rfl ?_
    rcases bcases (decide (findon.1 = (⟨(1 : Int), (0 : Int), (2 : Int)⟩ : api_Id))) with hb9 | hb9
    · have hp10 := of_decide_eq_true hb9
      rw [if_pos hp10] at hm
      refine WL.run rfl rfl rfl rfl hb9 rfl rfl (Op1.move (.tmp rfl)) ?_
      refine WL.op rfl (Op1.pickT (.tmp rfl) hb9 (.tmp rfl)) ?_
      refine WL.mv rfl rfl ?_
      rcases bcases (shorte.2) with hb11 | hb11
      · have hp12 := hb11
        rw [if_pos hp12] at hm
        refine WL.run rfl rfl rfl rfl hb11 rfl rfl (Op1.move (.tmp rfl)) ?_
        refine WL.op rfl (Op1.pickT (.tmp rfl) hb11 (.tmp rfl)) ?_
        refine WL.mv rfl rfl ?_
        rcases bcases (full.2) with hb13 | hb13
        · have hp14 := hb13
          rw [if_pos hp14] at hm
          refine WL.run rfl rfl rfl rfl hb13 rfl rfl (Op1.move (.tmp rfl)) ?_
          obtain ⟨format, hv15, hm⟩ := bind_some hm
          refine WL.run rfl rfl rfl rfl hb13 rfl rfl (Op1.call Try.call38 (address_Format_spec _ _ _ hv15) ⟨(.tmp rfl), trivial⟩) ?_
          refine WL.run rfl rfl rfl rfl hb13 rfl rfl (Op1.eqS (.tmp rfl) (.str rfl (by decide))) ?_
          refine WL.op rfl (Op1.pickT (.tmp rfl) hb13 (.tmp rfl)) ?_
          refine WL.mv rfl rfl ?_
          rcases bcases (format == ([112, 97, 114, 97, 103, 114, 97, 112, 104, 32, 50] : Str)) with hb16 | hb16
          · have hp17 := hb16
            rw [if_pos hp17] at hm
            refine WL.run rfl rfl rfl rfl hb16 rfl rfl (Op1.move (.tmp rfl)) ?_
            obtain ⟨format1, hv18, hm⟩ := bind_some hm
            refine WL.run rfl rfl rfl rfl hb16 rfl rfl (Op1.call Try.call38 (address_Format_spec _ _ _ hv18) ⟨(.tmp rfl), trivial⟩) ?_
            refine WL.run rfl rfl rfl rfl hb16 rfl rfl (Op1.eqS (.tmp rfl) (.str rfl (by decide))) ?_
            refine WL.op rfl (Op1.pickT (.tmp rfl) hb16 (.tmp rfl)) ?_
            refine WL.gv rfl rfl ?_
            refine WL.ns ?_
            cases hm
            exact W.ret1 () rfl (.tmp rfl) trivial
          · have hp17 := ne_of_false hb16
            rw [if_neg hp17] at hm
            refine WL.pass rfl rfl rfl rfl hb16 rfl rfl ?_
            refine WL.pass rfl rfl rfl rfl hb16 rfl rfl ?_
            refine WL.pass rfl rfl rfl rfl hb16 rfl rfl ?_
            refine WL.op rfl (Op1.pickF (.tmp rfl) hb16 .bool) ?_
            refine WL.gv rfl rfl ?_
            refine WL.ns ?_
            cases hm
            exact W.ret1 () rfl (.tmp rfl) trivial
        · have hp14 := ne_of_false hb13
          rw [if_neg hp14] at hm
          refine WL.pass rfl rfl rfl rfl hb13 rfl rfl ?_
          refine WL.pass rfl rfl rfl rfl hb13 rfl rfl ?_
          refine WL.pass rfl rfl rfl rfl hb13 rfl rfl ?_
          refine WL.op rfl (Op1.pickF (.tmp rfl) hb13 .bool) ?_
          refine WL.mv rfl rfl ?_
          refine WL.pass rfl rfl rfl rfl rfl rfl rfl ?_
          refine WL.pass rfl rfl rfl rfl rfl rfl rfl ?_
          refine WL.pass rfl rfl rfl rfl rfl rfl rfl ?_
          refine WL.op rfl (Op1.pickF (.tmp rfl) rfl .bool) ?_
          refine WL.gv rfl rfl ?_
          refine WL.ns ?_
          cases hm
          exact W.ret1 () rfl (.tmp rfl) trivial
      · have hp12 := ne_of_false hb11
        rw [if_neg hp12] at hm
        refine WL.pass rfl rfl rfl rfl hb11 rfl rfl ?_
        refine WL.op rfl (Op1.pickF (.tmp rfl) hb11 .bool) ?_
        refine WL.mv rfl rfl ?_
        refine WL.pass rfl rfl rfl rfl rfl rfl rfl ?_
        refine WL.pass rfl rfl rfl rfl rfl rfl rfl ?_
        refine WL.pass rfl rfl rfl rfl rfl rfl rfl ?_
        refine WL.op rfl (Op1.pickF (.tmp rfl) rfl .bool) ?_
        refine WL.mv rfl rfl ?_
        refine WL.pass rfl rfl rfl rfl rfl rfl rfl ?_
        refine WL.pass rfl rfl rfl rfl rfl rfl rfl ?_
        refine WL.pass rfl rfl rfl rfl rfl rfl rfl ?_
        refine WL.op rfl (Op1.pickF (.tmp rfl) rfl .bool) ?_
        refine WL.gv rfl rfl ?_
        refine WL.ns ?_
        cases hm
        exact W.ret1 () rfl (.tmp rfl) trivial
    · have hp10 := of_decide_eq_false hb9
      rw [if_neg hp10] at hm
      refine WL.pass rfl rfl rfl rfl hb9 rfl rfl ?_
      refine WL.op rfl (Op1.pickF (.tmp rfl) hb9 .bool) ?_
      refine WL.mv rfl rfl ?_
      refine WL.pass rfl rfl rfl rfl rfl rfl rfl ?_
      refine WL.op rfl (Op1.pickF (.tmp rfl) rfl .bool) ?_
      refine WL.mv rfl rfl ?_
      refine WL.pass rfl rfl rfl rfl rfl rfl rfl ?_
      refine WL.pass rfl rfl rfl rfl rfl rfl rfl ?_
      refine WL.pass rfl rfl rfl rfl rfl rfl rfl ?_
      refine WL.op rfl (Op1.pickF (.tmp rfl) rfl .bool) ?_
      refine WL.mv rfl rfl ?_
      refine WL.pass rfl rfl rfl rfl rfl rfl rfl ?_
      refine WL.pass rfl rfl rfl rfl rfl rfl rfl ?_
      refine WL.pass rfl rfl rfl rfl rfl rfl rfl ?_
      refine WL.op rfl (Op1.pickF (.tmp rfl) rfl .bool) ?_
      refine WL.gv rfl rfl ?_
      refine WL.ns ?_
      cases hm
      exact W.ret1 () rfl (.tmp rfl) trivial
  · have hp8 := of_decide_eq_false hb7
    rw [if_neg hp8] at hm
    refine WL.pass rfl rfl rfl rfl hb7 rfl rfl ?_
    refine WL.pass rfl rfl rfl rfl hb7 rfl rfl ?_
    refine WL.pass rfl rfl rfl rfl hb7 rfl rfl ?_
    refine WL.op rfl (Op1.pickF (.tmp rfl) hb7 .bool) ?_
    refine WL.mv rfl rfl ?_
    refine WL.pass rfl rfl rfl rfl rfl rfl rfl ?_
    refine WL.op rfl (Op1.pickF (.tmp rfl) rfl .bool) ?_
    refine WL.mv rfl rfl ?_
    refine WL.pass rfl rfl rfl rfl rfl rfl rfl ?_
    refine WL.op rfl (Op1.pickF (.tmp rfl) rfl .bool) ?_
    refine WL.mv rfl rfl ?_
    refine WL.pass rfl rfl rfl rfl rfl rfl rfl ?_
    refine WL.pass rfl rfl rfl rfl rfl rfl rfl ?_
    refine WL.pass rfl rfl rfl rfl rfl rfl rfl ?_
    refine WL.op rfl (Op1.pickF (.tmp rfl) rfl .bool) ?_
    refine WL.mv rfl rfl ?_
    refine WL.pass rfl rfl rfl rfl rfl rfl rfl ?_
    refine WL.pass rfl rfl rfl rfl rfl rfl rfl ?_
    refine WL.pass rfl rfl rfl rfl rfl rfl rfl ?_
    refine WL.op rfl (Op1.pickF (.tmp rfl) rfl .bool) ?_
    refine WL.gv rfl rfl ?_
    refine WL.ns ?_
    cases hm
    exact W.ret1 () rfl (.tmp rfl) trivial

theorem r07_few_spec : ∀ (n : Nat) (u : api_Unit) (left : Int) (deep : Int) (r : Int), M.r07_few n u left deep = some r → FSpec Try.prog 39 [(tapi_Unit.is u), ((tI .i64).is left), ((tI .i64).is deep)] ((tI .i64).is r) := by
  intro n
  induction n with
  | zero => intro u left deep r hm; cases hm
  | succ n ih =>
    intro u left deep r hm
    rw [M.r07_few.eq_2] at hm
    refine FSpec.of Try.func39 rfl rfl rfl (fun g0 => ?_)
    refine W.sr ?_
    refine WL.op rfl (Op1.box (.tmp rfl)) ?_
    refine WL.op rfl (Op1.assign (.int (inR64.2 (by omega)))) ?_
    refine WL.nr ?_
    refine WL.mv rfl rfl ?_
    obtain ⟨v, hv1, hm⟩ := bind_some hm
    refine WL.op rfl (Op1.subC hv1 (.tmp rfl) (.int (inR64.2 (by omega)))) ?_
    refine WL.op rfl (Op1.fieldAddr Try.underlying27 rfl (fun w => ⟨0, Try.sizeOf24 w⟩) fapi_Unit_4 (.tmp rfl)) ?_
    refine WL.op rfl (Op1.load ty24 (.tmp rfl)) ?_
    refine WL.op rfl (Op1.lenL Try.underlying24 (.tmp rfl)) ?_
    obtain ⟨v1, hv2, hm⟩ := bind_some hm
    refine WL.op rfl (Op1.quoC hv2 (.tmp rfl) (.int (inR64.2 (by omega)))) ?_
    obtain ⟨v2, hv3, hm⟩ := bind_some hm
    refine WL.op rfl (Op1.subC hv3 (.tmp rfl) (.tmp rfl)) ?_
    refine WL.op rfl (Op1.fieldAddr Try.underlying27 rfl (fun w => ⟨0, Try.sizeOf24 w⟩) fapi_Unit_3 (.tmp rfl)) ?_
    refine WL.op rfl (Op1.load ty24 (.tmp rfl)) ?_
    refine WL.op rfl (Op1.lenL Try.underlying24 (.tmp rfl)) ?_
    obtain ⟨v3, hv4, hm⟩ := bind_some hm
    refine WL.op rfl (Op1.quoC hv4 (.tmp rfl) (.int (inR64.2 (by omega)))) ?_
    obtain ⟨v4, hv5, hm⟩ := bind_some hm
    refine WL.op rfl (Op1.subC hv5 (.tmp rfl) (.tmp rfl)) ?_
    refine WL.op rfl (Op1.fieldAddr Try.underlying27 rfl (fun w => ⟨0, Try.sizeOf9 w⟩) fapi_Unit_2 (.tmp rfl)) ?_
    refine WL.op rfl (Op1.load ty9 (.tmp rfl)) ?_
    refine WL.op rfl (Op1.lenS Try.underlying9 (.tmp rfl)) ?_
    obtain ⟨v5, hv6, hm⟩ := bind_some hm
    refine WL.op rfl (Op1.quoC hv6 (.tmp rfl) (.int (inR64.2 (by omega)))) ?_
    obtain ⟨v6, hv7, hm⟩ := bind_some hm
    refine WL.op rfl (Op1.subC hv7 (.tmp rfl) (.tmp rfl)) ?_
    refine WL.gv rfl rfl ?_
    refine WL.ns ?_
    refine W.seq ?_
    refine W.sr ?_
    refine WL.mv rfl rfl ?_
    refine WL.op rfl (Op1.gtI (.tmp rfl) (.int (inR64.2 (by omega)))) ?_
    refine WL.ns ?_
    refine W.cond (.tmp rfl) (fun hc8 => ?_) (fun hc8 => ?_)
    · have hp9 := of_decide_eq_true hc8
      rw [if_pos hp9] at hm
      refine W.sr ?_
      refine WL.op rfl (Op1.assign (.int (inR64.2 (by omega)))) ?_
      refine WL.ns ?_
      cases hm
      exact W.ret1 () rfl (.tmp rfl) trivial
    · have hp9 := of_decide_eq_false hc8
      rw [if_neg hp9] at hm
      refine W.skip ?_
      refine WN.seq ?_
      refine W.seq ?_
      refine W.sr ?_
      refine WL.op rfl (Op1.assign (.int (inR64.2 (by omega)))) ?_
      refine WL.ns ?_
      refine W.block ?_
      obtain ⟨s10, hs11, hk12⟩ := bind_some hm
      clear hm
      refine W.loop (fun m (s : Int × Int) => M.r07_few_loop1 u deep (M.r07_few n) m s.1 s.2 = some s10) (fun s => [(1, ((tI .i64).is s.1)), (7, ((tI .i64).is s.2)), (2, ((tI .i64).is deep)), (3, (tapi_Unit.ptr u))]) (fun s => []) _ (v6, (0 : Int)) hs11 ⟨Ent.q rfl, Ent.q rfl, Ent.q rfl, Ent.q rfl, trivial⟩ trivial ?_
      rintro n13 ⟨left1, i⟩ hm
      try dsimp only at hm
      change W _ _ _ _ _ _ _ [(1, ((tI .i64).is left1)), (7, ((tI .i64).is i)), (2, ((tI .i64).is deep)), (3, (tapi_Unit.ptr u))] []
      cases n13 with
      | zero => rw [M.r07_few_loop1.eq_1] at hm; cases hm
      | succ n13 =>
        rw [M.r07_few_loop1.eq_2] at hm
        refine W.seq ?_
        obtain ⟨s14, hs15, hk16⟩ := bind_some hm
        clear hm
        refine W.join (fun s : Bool => s = s14) (fun s => [(35, (tB.is s)), (1, ((tI .i64).is left1)), (2, ((tI .i64).is deep)), (3, (tapi_Unit.ptr u)), (7, ((tI .i64).is i))]) (fun s => []) ?_ ?_
        · rintro v7 hj26
          try dsimp only at hj26
          subst hj26
          have hm := hk16
          clear hk16
          try dsimp only at hm
          change W _ _ _ _ _ _ _ [(35, (tB.is v7)), (1, ((tI .i64).is left1)), (2, ((tI .i64).is deep)), (3, (tapi_Unit.ptr u)), (7, ((tI .i64).is i))] []
          refine W.cond (.tmp rfl) (fun hc19 => ?_) (fun hc19 => ?_)
          · have hp20 := hc19
            rw [if_pos hp20] at hm
            refine W.skip ?_
            refine WN.seq ?_
            refine W.seq ?_
            refine W.block ?_
            refine W.region ?_
            refine WL.op rfl (Op1.fieldAddr Try.underlying27 rfl (fun w => ⟨0, Try.sizeOf25 w⟩) fapi_Unit_5 (.tmp rfl)) ?_
            refine WL.op rfl (Op1.load ty25 (.tmp rfl)) ?_
            refine WL.mv rfl rfl ?_
            obtain ⟨v8, hv21, hm⟩ := bind_some hm
            refine WL.op rfl (Op1.idx hv21 Try.underlying25 Try.sizeOf27 (.tmp rfl) (.tmp rfl)) ?_
            refine WL.op rfl (Op1.load ty27 (.tmp rfl)) ?_
            refine WL.mv rfl rfl ?_
            refine WL.mv rfl rfl ?_
            obtain ⟨v9, hv22, hm⟩ := bind_some hm
            refine WL.op rfl (Op1.addC hv22 (.tmp rfl) (.int (inR64.2 (by omega)))) ?_
            obtain ⟨few, hv23, hm⟩ := bind_some hm
            refine WL.op rfl (Op1.call Try.call39 (ih _ _ _ _ hv23) ⟨(.tmp rfl), (.tmp rfl), (.tmp rfl), trivial⟩) ?_
            refine WL.gv rfl rfl ?_
            refine WL.nil ?_
            refine WN.block ?_
            refine WN.seq ?_
            refine W.region ?_
            refine WL.mv rfl rfl ?_
            obtain ⟨v10, hv24, hm⟩ := bind_some hm
            refine WL.op rfl (Op1.addC hv24 (.tmp rfl) (.int (inR64.2 (by omega)))) ?_
            refine WL.gv rfl rfl ?_
            refine WL.nil ?_
            exact WN.again n13 (few, v10) (Nat.lt_succ_self n13) hm ⟨Ent.q rfl, Ent.q rfl, Ent.q rfl, Ent.q rfl, trivial⟩ trivial
          · have hp20 := ne_of_false hc19
            rw [if_neg hp20] at hm
            refine W.exit rfl ?_
            have hr25 := Option.some.inj hm
            clear hm
            subst hr25
            have hm := hk12
            try dsimp only at hm
            refine WN.seq ?_
            refine W.sr ?_
            refine WL.mv rfl rfl ?_
            refine WL.gv rfl rfl ?_
            refine WL.ns ?_
            cases hm
            exact W.ret1 () rfl (.tmp rfl) trivial
        · have hm := hs15
          clear hs15
          refine W.region ?_
          refine WL.mv rfl rfl ?_
          refine WL.op rfl (Op1.fieldAddr Try.underlying27 rfl (fun w => ⟨0, Try.sizeOf25 w⟩) fapi_Unit_5 (.tmp rfl)) ?_
          refine WL.op rfl (Op1.load ty25 (.tmp rfl)) ?_
          refine WL.op rfl (Op1.lenL Try.underlying25 (.tmp rfl)) ?_
          refine WL.op rfl (Op1.ltI (.tmp rfl) (.tmp rfl)) ?_
          refine WL.mv rfl rfl ?_
          rcases bcases (decide (i < (u.Kids.length : Int))) with hb17 | hb17
          · have hp18 := of_decide_eq_true hb17
            rw [if_pos hp18] at hm
            refine WL.run rfl rfl rfl rfl hb17 rfl rfl (Op1.move (.tmp rfl)) ?_
            refine WL.run rfl rfl rfl rfl hb17 rfl rfl (Op1.geI (.tmp rfl) (.int (inR64.2 (by omega)))) ?_
            refine WL.op rfl (Op1.pickT (.tmp rfl) hb17 (.tmp rfl)) ?_
            refine WL.nil ?_
            exact WN.meet (decide ((0 : Int) ≤ left1)) (Option.some.inj hm) ⟨Ent.q rfl, Ent.q rfl, Ent.q rfl, Ent.q rfl, Ent.q rfl, trivial⟩ trivial
          · have hp18 := of_decide_eq_false hb17
            rw [if_neg hp18] at hm
            refine WL.pass rfl rfl rfl rfl hb17 rfl rfl ?_
            refine WL.pass rfl rfl rfl rfl hb17 rfl rfl ?_
            refine WL.op rfl (Op1.pickF (.tmp rfl) hb17 .bool) ?_
            refine WL.nil ?_
            exact WN.meet false (Option.some.inj hm) ⟨Ent.q rfl, Ent.q rfl, Ent.q rfl, Ent.q rfl, Ent.q rfl, trivial⟩ trivial

theorem r07_Few_spec (n : Nat) (u : api_Unit) (most : Int) (r : Bool) (hm : M.r07_Few n u most = some r) : FSpec Try.prog 23 [(tapi_Unit.is u), ((tI .i64).is most)] (tB.is r) := by
  unfold M.r07_Few at hm
  refine FSpec.of Try.func23 rfl rfl rfl (fun g0 => ?_)
  refine W.sr ?_
  refine WL.op rfl (Op1.box (.tmp rfl)) ?_
  refine WL.op rfl (Op1.assign .bool) ?_
  refine WL.nr ?_
  refine WL.op rfl (Op1.load ty27 (.tmp rfl)) ?_
  refine WL.mv rfl rfl ?_
  obtain ⟨few, hv1, hm⟩ := bind_some hm
  refine WL.op rfl (Op1.call Try.call39 (r07_few_spec _ _ _ _ _ hv1) ⟨(.tmp rfl), (.tmp rfl), (.int (inR64.2 (by omega))), trivial⟩) ?_
  refine WL.op rfl (Op1.geI (.tmp rfl) (.int (inR64.2 (by omega)))) ?_
  refine WL.gv rfl rfl ?_
  refine WL.ns ?_
  cases hm
  exact W.ret1 () rfl (.tmp rfl) trivial

theorem law07_short_spec (n : Nat) (p : List api_Step) (r : Bool) (hm : M.law07_short n p = some r) : FSpec Try.prog 24 [((tL tapi_Step).is p)] (tB.is r) := by
  unfold M.law07_short at hm
  refine FSpec.of Try.func24 rfl rfl rfl (fun g0 => ?_)
  refine W.sr ?_
  refine WL.op rfl (Op1.assign .bool) ?_
  refine WL.ns ?_
  refine W.seq ?_
  refine W.sr ?_
  refine WL.op rfl (Op1.assign (.int (inR64.2 (by omega)))) ?_
  refine WL.ns ?_
  refine W.block ?_
  obtain ⟨s1, hs2, hk3⟩ := bind_some hm
  clear hm
  refine W.loop (fun m (s : Int) => M.law07_short_loop1 p m s = some s1) (fun s => [(3, ((tI .i64).is s)), (0, ((tL tapi_Step).is p))]) (fun s => []) _ (0 : Int) hs2 ⟨Ent.q rfl, Ent.q rfl, trivial⟩ trivial ?_
  rintro n4 i hm
  try dsimp only at hm
  change W _ _ _ _ _ _ _ [(3, ((tI .i64).is i)), (0, ((tL tapi_Step).is p))] []
  cases n4 with
  | zero => rw [M.law07_short_loop1.eq_1] at hm; cases hm
  | succ n4 =>
    rw [M.law07_short_loop1.eq_2] at hm
    refine W.seq ?_
    refine W.sr ?_
    refine WL.mv rfl rfl ?_
    refine WL.mv rfl rfl ?_
    refine WL.op rfl (Op1.lenL Try.underlying28 (.tmp rfl)) ?_
    refine WL.op rfl (Op1.ltI (.tmp rfl) (.tmp rfl)) ?_
    refine WL.ns ?_
    refine W.cond (.tmp rfl) (fun hc5 => ?_) (fun hc5 => ?_)
    · have hp6 := of_decide_eq_true hc5
      rw [if_pos hp6] at hm
      refine W.skip ?_
      refine WN.seq ?_
      refine W.seq ?_
      refine W.block ?_
      refine W.sr ?_
      refine WL.mv rfl rfl ?_
      refine WL.mv rfl rfl ?_
      obtain ⟨v, hv7, hm⟩ := bind_some hm
      refine WL.op rfl (Op1.idx hv7 Try.underlying28 Try.sizeOf63 (.tmp rfl) (.tmp rfl)) ?_
      refine WL.op rfl (Op1.fieldAddr Try.underlying63 rfl (fun w => ⟨0, Try.sizeOf9 w⟩) fapi_Step_1 (.tmp rfl)) ?_
      refine WL.op rfl (Op1.load ty9 (.tmp rfl)) ?_
      refine WL.op rfl (Op1.lenS Try.underlying9 (.tmp rfl)) ?_
      refine WL.op rfl (Op1.gtI (.tmp rfl) (.int (inR64.2 (by omega)))) ?_
      refine WL.ns ?_
      refine W.cond (.tmp rfl) (fun hc8 => ?_) (fun hc8 => ?_)
      · have hp9 := of_decide_eq_true hc8
        rw [if_pos hp9] at hm
        refine W.sr ?_
        refine WL.op rfl (Op1.assign .bool) ?_
        refine WL.ns ?_
        have hr10 := Option.some.inj hm
        clear hm
        subst hr10
        have hm := hk3
        try dsimp only at hm
        cases hm
        exact W.ret1 () rfl (.tmp rfl) trivial
      · have hp9 := of_decide_eq_false hc8
        rw [if_neg hp9] at hm
        refine W.skip ?_
        refine WN.block ?_
        refine WN.seq ?_
        refine W.region ?_
        refine WL.mv rfl rfl ?_
        refine WL.lenL (s := 0) (.tmp rfl) fun hl11 => ?_
        refine WL.op rfl (Op1.addI1 (.tmp rfl) (.int (inR64.2 (by omega))) hp6 hl11) ?_
        refine WL.gv rfl rfl ?_
        refine WL.nil ?_
        exact WN.again n4 (i + 1) (Nat.lt_succ_self n4) hm ⟨Ent.q rfl, Ent.q rfl, trivial⟩ trivial
    · have hp6 := of_decide_eq_false hc5
      rw [if_neg hp6] at hm
      refine W.exit rfl ?_
      have hr12 := Option.some.inj hm
      clear hm
      subst hr12
      have hm := hk3
      try dsimp only at hm
      refine WN.seq ?_
      refine W.sr ?_
      refine WL.mv rfl rfl ?_
      refine WL.op rfl (Op1.lenL Try.underlying28 (.tmp rfl)) ?_
      refine WL.op rfl (Op1.leI (.tmp rfl) (.int (inR64.2 (by omega)))) ?_
      refine WL.gv rfl rfl ?_
      refine WL.ns ?_
      cases hm
      exact W.ret1 () rfl (.tmp rfl) trivial

theorem law07_AddressFind_spec (n : Nat) (u : api_Unit) (p : List api_Step) (r : Bool) (hm : M.law07_AddressFind n u p = some r) : FSpec Try.prog 6 [(tapi_Unit.is u), ((tL tapi_Step).is p)] (tB.is r) := by
  unfold M.law07_AddressFind at hm
  refine FSpec.of Try.func6 rfl rfl rfl (fun g0 => ?_)
  refine W.sr ?_
  refine WL.op rfl (Op1.box (.tmp rfl)) ?_
  refine WL.op rfl (Op1.assign .bool) ?_
  refine WL.ns ?_
  refine W.seq ?_
  obtain ⟨s1, hs2, hk3⟩ := bind_some hm
  clear hm
  refine W.join (fun s : Bool => s = s1) (fun s => [(21, (tB.is s)), (1, ((tL tapi_Step).is p)), (2, (tapi_Unit.ptr u))]) (fun s => []) ?_ ?_
  · rintro v hj23
    try dsimp only at hj23
    subst hj23
    have hm := hk3
    clear hk3
    try dsimp only at hm
    change W _ _ _ _ _ _ _ [(21, (tB.is v)), (1, ((tL tapi_Step).is p)), (2, (tapi_Unit.ptr u))] []
    refine W.cond (.tmp rfl) (fun hc11 => ?_) (fun hc11 => ?_)
    · have hp12 := hc11
      rw [if_pos hp12] at hm
      refine W.sr ?_
      obtain ⟨awake1, hv13, hm⟩ := bind_some hm
      refine WL.op rfl (Op1.call Try.call22 (law07_awake_spec _ _ hv13) trivial) ?_
      refine WL.gv rfl rfl ?_
      refine WL.ns ?_
      cases hm
      exact W.ret1 () rfl (.tmp rfl) trivial
    · have hp12 := ne_of_false hc11
      rw [if_neg hp12] at hm
      refine W.skip ?_
      refine WN.seq ?_
      refine W.sr ?_
      refine WL.op rfl (Op1.load ty27 (.tmp rfl)) ?_
      refine WL.mv rfl rfl ?_
      obtain ⟨findal, hv14, hm⟩ := bind_some hm
      refine WL.op rfl (Op1.call Try.call25 (address_FindAll_spec _ _ _ _ hv14) ⟨(.tmp rfl), (.tmp rfl), trivial⟩) ?_
      refine WL.gv rfl rfl ?_
      refine WL.nr ?_
      refine WL.op rfl (Op1.load ty27 (.tmp rfl)) ?_
      refine WL.mv rfl rfl ?_
      obtain ⟨findon, hv15, hm⟩ := bind_some hm
      refine WL.op rfl (Op1.call Try.call26 (address_FindOne_spec _ _ _ _ hv15) ⟨(.tmp rfl), (.tmp rfl), trivial⟩) ?_
      refine WL.mv rfl rfl ?_
      refine WL.op rfl (Op1.extract0 (.tmp rfl)) ?_
      refine WL.op rfl (Op1.extract1 (.tmp rfl)) ?_
      refine WL.opR rfl (OpR.alloc 6 ze23) (fun b => ?_)
      refine WL.opU (OpR.storeB (b := b) 6 Try.sizeOf23 (Cellable.is tapi_Id findon.1) rfl (.tmp rfl) (.tmp rfl)) (fun _ => ?_)
      refine WL.sealed (t := tapi_Id) (u := findon.1) 6 6 rfl rfl ?_
      refine WL.gv rfl rfl ?_
      refine WL.nr ?_
      refine WL.op rfl (Op1.load ty27 (.tmp rfl)) ?_
      refine WL.mv rfl rfl ?_
      obtain ⟨one, hv16, hm⟩ := bind_some hm
      refine WL.op rfl (Op1.call Try.call18 (r07_One_spec _ _ _ _ hv16) ⟨(.tmp rfl), (.tmp rfl), trivial⟩) ?_
      refine WL.mv rfl rfl ?_
      refine WL.op rfl (Op1.extract0 (.tmp rfl)) ?_
      refine WL.op rfl (Op1.extract1 (.tmp rfl)) ?_
      refine WL.opR rfl (OpR.alloc 8 ze23) (fun b1 => ?_)
      refine WL.opU (OpR.storeB (b := b1) 8 Try.sizeOf23 (Cellable.is tapi_Id one.1) rfl (.tmp rfl) (.tmp rfl)) (fun _ => ?_)
      refine WL.sealed (t := tapi_Id) (u := one.1) 8 8 rfl rfl ?_
      refine WL.gv rfl rfl ?_
      refine WL.nr ?_
      refine WL.mv rfl rfl ?_
      refine WL.op rfl (Op1.load ty27 (.tmp rfl)) ?_
      refine WL.mv rfl rfl ?_
      obtain ⟨find, hv17, hm⟩ := bind_some hm
      refine WL.op rfl (Op1.call Try.call21 (r07_Find_spec _ _ _ _ hv17) ⟨(.tmp rfl), (.tmp rfl), trivial⟩) ?_
      obtain ⟨ids, hv18, hm⟩ := bind_some hm
      refine WL.op rfl (Op1.call Try.call19 (r07_Ids_spec _ _ _ _ hv18) ⟨(.tmp rfl), (.tmp rfl), trivial⟩) ?_
      refine WL.mv rfl rfl ?_
      rcases bcases (ids) with hb19 | hb19
      · have hp20 := hb19
        rw [if_pos hp20] at hm
        refine WL.run rfl rfl rfl rfl hb19 rfl rfl (Op1.load ty23 (.tmp rfl)) ?_
        refine WL.run rfl rfl rfl rfl hb19 rfl rfl (Op1.load ty23 (.tmp rfl)) ?_
        refine WL.run rfl rfl rfl rfl hb19 rfl rfl (Op1.eqSt (D := 2) rfl (by decide) eg23 eq23 (.tmp rfl) (.tmp rfl)) ?_
        refine WL.op rfl (Op1.pickT (.tmp rfl) hb19 (.tmp rfl)) ?_
        refine WL.mv rfl rfl ?_
        rcases bcases (decide (findon.1 = one.1)) with hb21 | hb21
        · have hp22 := of_decide_eq_true hb21
          rw [if_pos hp22] at hm
          refine WL.run rfl rfl rfl rfl hb21 rfl rfl (Op1.move (.tmp rfl)) ?_
          refine WL.run rfl rfl rfl rfl hb21 rfl rfl (Op1.move (.tmp rfl)) ?_
          refine WL.run rfl rfl rfl rfl hb21 rfl rfl (Op1.eqI (.tmp rfl) (.tmp rfl)) ?_
          refine WL.op rfl (Op1.pickT (.tmp rfl) hb21 (.tmp rfl)) ?_
          refine WL.gv rfl rfl ?_
          refine WL.ns ?_
          cases hm
          exact W.ret1 () rfl (.tmp rfl) trivial
        · have hp22 := of_decide_eq_false hb21
          rw [if_neg hp22] at hm
          refine WL.pass rfl rfl rfl rfl hb21 rfl rfl ?_
          refine WL.pass rfl rfl rfl rfl hb21 rfl rfl ?_
          refine WL.pass rfl rfl rfl rfl hb21 rfl rfl ?_
          refine WL.op rfl (Op1.pickF (.tmp rfl) hb21 .bool) ?_
          refine WL.gv rfl rfl ?_
          refine WL.ns ?_
          cases hm
          exact W.ret1 () rfl (.tmp rfl) trivial
      · have hp20 := ne_of_false hb19
        rw [if_neg hp20] at hm
        refine WL.pass rfl rfl rfl rfl hb19 rfl rfl ?_
        refine WL.pass rfl rfl rfl rfl hb19 rfl rfl ?_
        refine WL.pass rfl rfl rfl rfl hb19 rfl rfl ?_
        refine WL.op rfl (Op1.pickF (.tmp rfl) hb19 .bool) ?_
        refine WL.mv rfl rfl ?_
        refine WL.pass rfl rfl rfl rfl rfl rfl rfl ?_
        refine WL.pass rfl rfl rfl rfl rfl rfl rfl ?_
        refine WL.pass rfl rfl rfl rfl rfl rfl rfl ?_
        refine WL.op rfl (Op1.pickF (.tmp rfl) rfl .bool) ?_
        refine WL.gv rfl rfl ?_
        refine WL.ns ?_
        cases hm
        exact W.ret1 () rfl (.tmp rfl) trivial
  · have hm := hs2
    clear hs2
    refine W.region ?_
    obtain ⟨awake, hv4, hm⟩ := bind_some hm
    refine WL.op rfl (Op1.call Try.call22 (law07_awake_spec _ _ hv4) trivial) ?_
    refine WL.op rfl (Op1.notB (.tmp rfl)) ?_
    refine WL.mv rfl rfl ?_
    rcases bcases (!awake) with hb5 | hb5
    · have hp6 := not_pos hb5
      rw [if_pos hp6] at hm
      refine WL.pass rfl rfl rfl rfl hb5 rfl rfl ?_
      refine WL.pass rfl rfl rfl rfl hb5 rfl rfl ?_
      refine WL.pass rfl rfl rfl rfl hb5 rfl rfl ?_
      refine WL.op rfl (Op1.pickT (.tmp rfl) hb5 .bool) ?_
      refine WL.mv rfl rfl ?_
      refine WL.pass rfl rfl rfl rfl rfl rfl rfl ?_
      refine WL.pass rfl rfl rfl rfl rfl rfl rfl ?_
      refine WL.pass rfl rfl rfl rfl rfl rfl rfl ?_
      refine WL.op rfl (Op1.pickT (.tmp rfl) rfl .bool) ?_
      refine WL.nil ?_
      exact WN.meet true (Option.some.inj hm) ⟨Ent.q rfl, Ent.q rfl, Ent.q rfl, trivial⟩ trivial
    · have hp6 := not_neg hb5
      rw [if_neg hp6] at hm
      refine WL.run rfl rfl rfl rfl hb5 rfl rfl (Op1.load ty27 (.tmp rfl)) ?_
      obtain ⟨few, hv7, hm⟩ := bind_some hm
      refine WL.run rfl rfl rfl rfl hb5 rfl rfl (Op1.call Try.call23 (r07_Few_spec _ _ _ _ hv7) ⟨(.tmp rfl), (.int (inR64.2 (by omega))), trivial⟩) ?_
      refine WL.run rfl rfl rfl rfl hb5 rfl rfl (Op1.notB (.tmp rfl)) ?_
      refine WL.op rfl (Op1.pickF (.tmp rfl) hb5 (.tmp rfl)) ?_
      refine WL.mv rfl rfl ?_
      rcases bcases (!few) with hb8 | hb8
      · have hp9 := not_pos hb8
        rw [if_pos hp9] at hm
        refine WL.pass rfl rfl rfl rfl hb8 rfl rfl ?_
        refine WL.pass rfl rfl rfl rfl hb8 rfl rfl ?_
        refine WL.pass rfl rfl rfl rfl hb8 rfl rfl ?_
        refine WL.op rfl (Op1.pickT (.tmp rfl) hb8 .bool) ?_
        refine WL.nil ?_
        exact WN.meet true (Option.some.inj hm) ⟨Ent.q rfl, Ent.q rfl, Ent.q rfl, trivial⟩ trivial
      · have hp9 := not_neg hb8
        rw [if_neg hp9] at hm
        refine WL.run rfl rfl rfl rfl hb8 rfl rfl (Op1.move (.tmp rfl)) ?_
        obtain ⟨short, hv10, hm⟩ := bind_some hm
        refine WL.run rfl rfl rfl rfl hb8 rfl rfl (Op1.call Try.call24 (law07_short_spec _ _ _ hv10) ⟨(.tmp rfl), trivial⟩) ?_
        refine WL.run rfl rfl rfl rfl hb8 rfl rfl (Op1.notB (.tmp rfl)) ?_
        refine WL.op rfl (Op1.pickF (.tmp rfl) hb8 (.tmp rfl)) ?_
        refine WL.nil ?_
        exact WN.meet (!short) (Option.some.inj hm) ⟨Ent.q rfl, Ent.q rfl, Ent.q rfl, trivial⟩ trivial

theorem unit_Ancestors_spec (n : Nat) (u : api_Unit) (id : api_Id) (r : (List api_Id)) (hm : M.unit_Ancestors n u id = some r) : FSpec Try.prog 69 [(tapi_Unit.is u), (tapi_Id.is id)] ((tL tapi_Id).is r) := by
  unfold M.unit_Ancestors at hm
  refine FSpec.of Try.func69 rfl rfl rfl (fun g0 => ?_)
  refine W.sr ?_
  refine WL.op rfl (Op1.box (.tmp rfl)) ?_
  refine WL.op rfl (Op1.box (.tmp rfl)) ?_
  refine WL.op rfl (Op1.assign (.nil (t := tapi_Id))) ?_
  refine WL.nr ?_
  refine WL.addNil (t := tapi_Id) (E := 23) 5 ?_
  refine WL.op rfl (Op1.assign (Opd.nilO (t := tapi_Id))) ?_
  refine WL.nr ?_
  refine WL.op rfl (Op1.load ty27 (.tmp rfl)) ?_
  refine WL.op rfl (Op1.load ty23 (.tmp rfl)) ?_
  obtain ⟨way, hv1, hm⟩ := bind_some hm
  refine WL.op rfl (Op1.call Try.call81 (unit_way_spec _ _ _ _ hv1) ⟨(.tmp rfl), (.tmp rfl), trivial⟩) ?_
  refine WL.gv rfl rfl ?_
  refine WL.ns ?_
  refine W.seq ?_
  refine W.sr ?_
  refine WL.mv rfl rfl ?_
  refine WL.op rfl (Op1.lenL Try.underlying25 (Opd.tLn (.tmp rfl))) ?_
  obtain ⟨v, hv2, hm⟩ := bind_some hm
  refine WL.op rfl (Op1.subC hv2 (.tmp rfl) (.int (inR64.2 (by omega)))) ?_
  refine WL.gv rfl rfl ?_
  refine WL.ns ?_
  refine W.block ?_
  obtain ⟨s3, hs4, hk5⟩ := bind_some hm
  clear hm
  refine W.loop (fun m (s : ((List api_Id) × Int) × Tok) => M.unit_Ancestors_loop1 way m s.1.1 s.1.2 = some s3) (fun s => [(5, (tO tapi_Id s.2 s.1.1)), (7, ((tI .i64).is s.1.2)), (6, ((tLn tapi_Unit).is way))]) (fun s => [(5, Own tapi_Id 23 s.2 s.1.1.length)]) _ ((([] : List api_Id), v), (none : Tok)) hs4 ⟨Ent.q rfl, Ent.q rfl, Ent.q rfl, trivial⟩ ⟨rfl, rfl, trivial⟩ ?_
  rintro n6 ⟨⟨out, i⟩, k⟩ hm
  try dsimp only at hm
  change W _ _ _ _ _ _ _ [(5, (tO tapi_Id k out)), (7, ((tI .i64).is i)), (6, ((tLn tapi_Unit).is way))] [(5, Own tapi_Id 23 k out.length)]
  cases n6 with
  | zero => rw [M.unit_Ancestors_loop1.eq_1] at hm; cases hm
  | succ n6 =>
    rw [M.unit_Ancestors_loop1.eq_2] at hm
    refine W.seq ?_
    refine W.sr ?_
    refine WL.mv rfl rfl ?_
    refine WL.op rfl (Op1.geI (.tmp rfl) (.int (inR64.2 (by omega)))) ?_
    refine WL.ns ?_
    refine W.cond (.tmp rfl) (fun hc7 => ?_) (fun hc7 => ?_)
    · have hp8 := of_decide_eq_true hc7
      rw [if_pos hp8] at hm
      refine W.skip ?_
      refine WN.seq ?_
      refine W.seq ?_
      refine W.block ?_
      refine W.region ?_
      refine WL.mv rfl rfl ?_
      refine WL.mv rfl rfl ?_
      refine WL.mv rfl rfl ?_
      obtain ⟨v1, hv9, hm⟩ := bind_some hm
      refine WL.op rfl (Op1.idx hv9 Try.underlying25 Try.sizeOf27 (Opd.tLn (.tmp rfl)) (.tmp rfl)) ?_
      refine WL.op rfl (Op1.fieldAddr Try.underlying27 rfl (fun w => ⟨2, Try.sizeOf23 w⟩) fapi_Unit_0 (.tmp rfl)) ?_
      refine WL.op rfl (Op1.load ty23 (.tmp rfl)) ?_
      refine WL.op rfl (Op1.buildSlice (n := 1) (ys := [(0, v1.Id)]) (z := zapi_Id) (xs := [v1.Id]) Try.underlying42 el23 ze23 ⟨rfl, (.tmp rfl), trivial⟩ (by simp) (by decide) rfl) ?_
      obtain ⟨out1, hv10, hm⟩ := bind_some hm
      refine WL.opR rfl (OpR.appC (key := 5) hv10 Try.underlying42 el23 (.tmp rfl) (.tmp rfl) rfl) (fun k1 => ?_)
      refine WL.gv rfl rfl ?_
      refine WL.nil ?_
      refine WN.block ?_
      refine WN.seq ?_
      refine W.region ?_
      refine WL.mv rfl rfl ?_
      obtain ⟨v2, hv11, hm⟩ := bind_some hm
      refine WL.op rfl (Op1.subC hv11 (.tmp rfl) (.int (inR64.2 (by omega)))) ?_
      refine WL.gv rfl rfl ?_
      refine WL.nil ?_
      exact WN.again n6 ((out1, v2), k1) (Nat.lt_succ_self n6) hm ⟨Ent.q rfl, Ent.q rfl, Ent.q rfl, trivial⟩ ⟨rfl, rfl, trivial⟩
    · have hp8 := of_decide_eq_false hc7
      rw [if_neg hp8] at hm
      refine W.exit rfl ?_
      have hr12 := Option.some.inj hm
      clear hm
      subst hr12
      have hm := hk5
      try dsimp only at hm
      refine WN.seq ?_
      refine W.sr ?_
      refine WL.mv rfl rfl ?_
      refine WL.gv rfl rfl ?_
      refine WL.ns ?_
      cases hm
      exact W.ret1 () rfl (Opd.own (.tmp rfl)) trivial

theorem slices_Index_api_Id_api_Id_spec (n : Nat) (s0_ : List api_Id) (v : api_Id) (r : Int) (hm : M.slices_Index_api_Id_api_Id n s0_ v = some r) : FSpec Try.prog 84 [((tL tapi_Id).is s0_), (tapi_Id.is v)] ((tI .i64).is r) := by
  unfold M.slices_Index_api_Id_api_Id at hm
  refine FSpec.of Try.func84 rfl rfl rfl (fun g0 => ?_)
  refine W.sr ?_
  refine WL.op rfl (Op1.box (.tmp rfl)) ?_
  refine WL.op rfl (Op1.assign (.int (inR64.2 (by omega)))) ?_
  refine WL.ns ?_
  refine W.seq ?_
  refine W.sr ?_
  refine WL.mv rfl rfl ?_
  refine WL.op rfl (Op1.lenL Try.underlying42 (.tmp rfl)) ?_
  refine WL.op rfl (Op1.move (.int (inR64.2 (by omega)))) ?_
  refine WL.ns ?_
  refine W.block ?_
  obtain ⟨s1, hs2, hk3⟩ := bind_some hm
  clear hm
  refine W.loop (fun m (s : Int) => M.slices_Index_api_Id_api_Id_loop1 s0_ v m s = some s1) (fun s => [(8, ((tI .i64).is s)), (0, ((tL tapi_Id).is s0_)), (3, (tapi_Id.ptr v)), (7, ((tI .i64).is (s0_.length : Int)))]) (fun s => []) _ (0 : Int) hs2 ⟨Ent.q rfl, Ent.q rfl, Ent.q rfl, Ent.q rfl, trivial⟩ trivial ?_
  rintro n4 v1 hm
  try dsimp only at hm
  change W _ _ _ _ _ _ _ [(8, ((tI .i64).is v1)), (0, ((tL tapi_Id).is s0_)), (3, (tapi_Id.ptr v)), (7, ((tI .i64).is (s0_.length : Int)))] []
  cases n4 with
  | zero => rw [M.slices_Index_api_Id_api_Id_loop1.eq_1] at hm; cases hm
  | succ n4 =>
    rw [M.slices_Index_api_Id_api_Id_loop1.eq_2] at hm
    refine W.sr ?_
    refine WL.op rfl (Op1.ltI (.tmp rfl) (.tmp rfl)) ?_
    refine WL.ns ?_
    refine W.seq ?_
    refine W.cond (.tmp rfl) (fun hc5 => ?_) (fun hc5 => ?_)
    · have hp6 := of_decide_eq_true hc5
      rw [if_pos hp6] at hm
      refine W.skip ?_
      refine WN.seq ?_
      refine W.seq ?_
      refine W.block ?_
      refine W.sr ?_
      refine WL.mv rfl rfl ?_
      refine WL.gv rfl rfl ?_
      refine WL.ns ?_
      refine W.seq ?_
      obtain ⟨v2, hv7, hm⟩ := bind_some hm
      refine W.draw [.c (tapi_Id.is v), .c ((tL tapi_Id).is s0_), .c ((tI .i64).is v1), .c (tapi_Id.ptr v2), .c (tapi_Id.is v2), .c (tB.is (decide (v = v2)))] [([], [3]), ([], [0]), ([], [5]), ([1, 2], []), ([3], []), ([0, 4], [])] Try.mixed rfl rfl rfl rfl ⟨.inr (Op1.load ty23 (.tmp rfl)), .inr (Op1.move (.tmp rfl)), .inr (Op1.move (.tmp rfl)), .inr (Op1.idx hv7 Try.underlying42 Try.sizeOf23 (.tmp rfl) (.tmp rfl)), .inr (Op1.load ty23 (.tmp rfl)), .inr (Op1.eqSt (D := 2) rfl (by decide) eg23 eq23 (.tmp rfl) (.tmp rfl)), trivial⟩ ?_
      refine WN.seq ?_
      refine W.cond (.tmp rfl) (fun hc8 => ?_) (fun hc8 => ?_)
      · have hp9 := of_decide_eq_true hc8
        rw [if_pos hp9] at hm
        refine W.sr ?_
        refine WL.mv rfl rfl ?_
        refine WL.gv rfl rfl ?_
        refine WL.ns ?_
        have hr10 := Option.some.inj hm
        clear hm
        subst hr10
        have hm := hk3
        try dsimp only at hm
        cases hm
        exact W.ret1 () rfl (.tmp rfl) trivial
      · have hp9 := of_decide_eq_false hc8
        rw [if_neg hp9] at hm
        refine W.skip ?_
        refine WN.block ?_
        refine WN.seq ?_
        refine W.region ?_
        refine WL.lenL (s := 0) (.tmp rfl) fun hl11 => ?_
        refine WL.op rfl (Op1.addI1 (.tmp rfl) (.int (inR64.2 (by omega))) hp6 hl11) ?_
        refine WL.mv rfl rfl ?_
        refine WL.nil ?_
        exact WN.again n4 (v1 + 1) (Nat.lt_succ_self n4) hm ⟨Ent.q rfl, Ent.q rfl, Ent.q rfl, Ent.q rfl, trivial⟩ trivial
    · have hp6 := of_decide_eq_false hc5
      rw [if_neg hp6] at hm
      refine W.exit rfl ?_
      have hr12 := Option.some.inj hm
      clear hm
      subst hr12
      have hm := hk3
      try dsimp only at hm
      refine WN.seq ?_
      refine W.sr ?_
      refine WL.op rfl (Op1.assign (.int (inR64.2 (by omega)))) ?_
      refine WL.ns ?_
      cases hm
      exact W.ret1 () rfl (.tmp rfl) trivial

theorem slices_Contains_api_Id_api_Id_spec (n : Nat) (s0_ : List api_Id) (v : api_Id) (r : Bool) (hm : M.slices_Contains_api_Id_api_Id n s0_ v = some r) : FSpec Try.prog 68 [((tL tapi_Id).is s0_), (tapi_Id.is v)] (tB.is r) := by
  unfold M.slices_Contains_api_Id_api_Id at hm
  refine FSpec.of Try.func68 rfl rfl rfl (fun g0 => ?_)
  refine W.sr ?_
  refine WL.op rfl (Op1.box (.tmp rfl)) ?_
  refine WL.op rfl (Op1.assign .bool) ?_
  refine WL.nr ?_
  refine WL.mv rfl rfl ?_
  refine WL.op rfl (Op1.load ty23 (.tmp rfl)) ?_
  obtain ⟨id, hv1, hm⟩ := bind_some hm
  refine WL.op rfl (Op1.call Try.call84 (slices_Index_api_Id_api_Id_spec _ _ _ _ hv1) ⟨(.tmp rfl), (.tmp rfl), trivial⟩) ?_
  refine WL.op rfl (Op1.geI (.tmp rfl) (.int (inR64.2 (by omega)))) ?_
  refine WL.gv rfl rfl ?_
  refine WL.ns ?_
  cases hm
  exact W.ret1 () rfl (.tmp rfl) trivial

theorem target_goes_spec (n : Nat) (u : api_Unit) (id : api_Id) (to : api_Id) (where0_ : Int) (r : target_spot × Int) (hm : M.target_goes n u id to where0_ = some r) : FSpec Try.prog 41 [(tapi_Unit.is u), (tapi_Id.is id), (tapi_Id.is to), ((tI .i64).is where0_)] (Asn.tuple2 (ttarget_spot.is r.1) ((tI .i64).is r.2)) := by
  unfold M.target_goes at hm
  refine FSpec.of Try.func41 rfl rfl rfl (fun g0 => ?_)
  refine W.sr ?_
  refine WL.op rfl (Op1.box (.tmp rfl)) ?_
  refine WL.op rfl (Op1.box (.tmp rfl)) ?_
  refine WL.op rfl (Op1.box (.tmp rfl)) ?_
  refine WL.opR rfl (OpR.alloc 8 ze66) (fun b => ?_)
  refine WL.op rfl (Op1.assign (.int (inR64.2 (by omega)))) ?_
  refine WL.ns ?_
  obtain ⟨s1, hs2, hk3⟩ := bind_some hm
  clear hm
  refine W.join (fun s : Bool => s = s1) (fun s => [(10, (tB.is s)), (3, ((tI .i64).is where0_)), (4, (tapi_Unit.ptr u)), (5, (tapi_Id.ptr id)), (6, (tapi_Id.ptr to)), (8, (Bp b 0))]) (fun s => [(8, (Bx 4 true 66 (ttarget_spot.is ztarget_spot) b))]) ?_ ?_
  · rintro besides hj65
    try dsimp only at hj65
    subst hj65
    have hm := hk3
    clear hk3
    try dsimp only at hm
    change W _ _ _ _ _ _ _ [(10, (tB.is besides)), (3, ((tI .i64).is where0_)), (4, (tapi_Unit.ptr u)), (5, (tapi_Id.ptr id)), (6, (tapi_Id.ptr to)), (8, (Bp b 0))] [(8, (Bx 4 true 66 (ttarget_spot.is ztarget_spot) b))]
    refine W.sr ?_
    refine WL.op rfl (Op1.load ty27 (.tmp rfl)) ?_
    refine WL.op rfl (Op1.load ty23 (.tmp rfl)) ?_
    obtain ⟨parent, hv6, hm⟩ := bind_some hm
    refine WL.op rfl (Op1.call Try.call67 (unit_Parent_spec _ _ _ _ hv6) ⟨(.tmp rfl), (.tmp rfl), trivial⟩) ?_
    refine WL.mv rfl rfl ?_
    refine WL.op rfl (Op1.extract30 (.tmp rfl)) ?_
    refine WL.op rfl (Op1.extract31 (.tmp rfl)) ?_
    refine WL.op rfl (Op1.extract32 (.tmp rfl)) ?_
    refine WL.opR rfl (OpR.alloc 11 ze23) (fun b1 => ?_)
    refine WL.opU (OpR.storeB (b := b1) 11 Try.sizeOf23 (Cellable.is tapi_Id parent.1) rfl (.tmp rfl) (.tmp rfl)) (fun _ => ?_)
    refine WL.sealed (t := tapi_Id) (u := parent.1) 11 11 rfl rfl ?_
    refine WL.gv rfl rfl ?_
    refine WL.gv rfl rfl ?_
    refine WL.ns ?_
    refine W.seq ?_
    rcases bcases (decide (to ≠ id)) with hb7 | hb7
    · have hp8 := of_decide_eq_true hb7
      rw [if_pos hp8] at hm
      obtain ⟨ancest, hv9, hm⟩ := bind_some hm
      obtain ⟨id1, hv10, hm⟩ := bind_some hm
      refine W.draw [.c (tapi_Id.is to), .c (tapi_Id.is id), .c (tB.is (decide (to ≠ id))), .c (tB.is (decide (to ≠ id))), .c (tapi_Unit.is u), .c (tapi_Id.is to), .c ((tL tapi_Id).is ancest), .c (tapi_Id.is id), .c (tB.is id1), .c (tB.is id1), .c (tB.is id1)] [([], [6]), ([], [5]), ([0, 1], []), ([2], []), ([3], [4]), ([3], [6]), ([3, 4, 5], []), ([3], [5]), ([3, 6, 7], []), ([3, 8], []), ([9], [])] Try.mixed rfl rfl rfl rfl ⟨.inr (Op1.load ty23 (.tmp rfl)), .inr (Op1.load ty23 (.tmp rfl)), .inr (Op1.neSt (D := 2) rfl (by decide) eg23 eq23 (.tmp rfl) (.tmp rfl)), .inr (Op1.move (.tmp rfl)), .inr ⟨_, _, _, rfl, rfl, .inl ⟨rfl, .inl ⟨hb7, Op1.load ty27 (.tmp rfl)⟩⟩⟩, .inr ⟨_, _, _, rfl, rfl, .inl ⟨rfl, .inl ⟨hb7, Op1.load ty23 (.tmp rfl)⟩⟩⟩, .inr ⟨_, _, _, rfl, rfl, .inl ⟨rfl, .inl ⟨hb7, Op1.call Try.call69 (unit_Ancestors_spec _ _ _ _ hv9) ⟨(.tmp rfl), (.tmp rfl), trivial⟩⟩⟩⟩, .inr ⟨_, _, _, rfl, rfl, .inl ⟨rfl, .inl ⟨hb7, Op1.load ty23 (.tmp rfl)⟩⟩⟩, .inr ⟨_, _, _, rfl, rfl, .inl ⟨rfl, .inl ⟨hb7, Op1.call Try.call68 (slices_Contains_api_Id_api_Id_spec _ _ _ _ hv10) ⟨(.tmp rfl), (.tmp rfl), trivial⟩⟩⟩⟩, .inr (Op1.pickT (.tmp rfl) hb7 (.tmp rfl)), .inr (Op1.assign (.tmp rfl)), trivial⟩ ?_
      refine WN.seq ?_
      refine W.seq ?_
      obtain ⟨s11, hs12, hk13⟩ := bind_some hm
      clear hm
      refine W.join (fun s : Bool => s = s11) (fun s => [(53, (tB.is s)), (3, ((tI .i64).is where0_)), (4, (tapi_Unit.ptr u)), (5, (tapi_Id.ptr id)), (6, (tapi_Id.ptr to)), (8, (Bp b 0)), (11, (tapi_Id.ptr parent.1)), (12, ((tI .i64).is parent.2.1))]) (fun s => [(8, (Bx 4 true 66 (ttarget_spot.is ztarget_spot) b))]) ?_ ?_
      · rintro v hj38
        try dsimp only at hj38
        subst hj38
        have hm := hk13
        clear hk13
        try dsimp only at hm
        change W _ _ _ _ _ _ _ [(53, (tB.is v)), (3, ((tI .i64).is where0_)), (4, (tapi_Unit.ptr u)), (5, (tapi_Id.ptr id)), (6, (tapi_Id.ptr to)), (8, (Bp b 0)), (11, (tapi_Id.ptr parent.1)), (12, ((tI .i64).is parent.2.1))] [(8, (Bx 4 true 66 (ttarget_spot.is ztarget_spot) b))]
        refine W.cond (.tmp rfl) (fun hc20 => ?_) (fun hc20 => ?_)
        · have hp21 := hc20
          rw [if_pos hp21] at hm
          refine W.sr ?_
          refine WL.op rfl (Op1.build (s := ttarget_spot) (x := (⟨zapi_Id, (0 : Int)⟩ : target_spot)) ztarget_spot_f rfl Try.underlying66 (ztarget_spot_sz _ Try.underlying66) ze66 rfl) ?_
          refine WL.opU (OpR.storeB (b := b) 8 Try.sizeOf66 (Cellable.is ttarget_spot (⟨zapi_Id, (0 : Int)⟩ : target_spot)) rfl (.tmp rfl) (.tmp rfl)) (fun _ => ?_)
          refine WL.op rfl (Op1.assign (.int (inR64.2 (by omega)))) ?_
          refine WL.ns ?_
          cases hm
          exact W.retQ2 () rfl rfl (ResAt.cell 8 Try.isAgg66 Try.sizeOf66 rfl (.tmp rfl)) (ResAt.tmp (.tmp rfl)) trivial
        · have hp21 := ne_of_false hc20
          rw [if_neg hp21] at hm
          refine W.skip ?_
          refine WN.seq ?_
          refine W.seq ?_
          refine W.sr ?_
          refine WL.op rfl (Op1.load ty23 (.tmp rfl)) ?_
          refine WL.op rfl (Op1.load ty23 (.tmp rfl)) ?_
          refine WL.op rfl (Op1.eqSt (D := 2) rfl (by decide) eg23 eq23 (.tmp rfl) (.tmp rfl)) ?_
          refine WL.ns ?_
          refine W.cond (.tmp rfl) (fun hc22 => ?_) (fun hc22 => ?_)
          · have hp23 := of_decide_eq_true hc22
            rw [if_pos hp23] at hm
            refine W.sr ?_
            refine WL.op rfl (Op1.load ty23 (.tmp rfl)) ?_
            refine WL.mv rfl rfl ?_
            refine WL.op rfl (Op1.build (s := ttarget_spot) (x := (⟨parent.1, parent.2.1⟩ : target_spot)) ztarget_spot_f rfl Try.underlying66 (ztarget_spot_sz _ Try.underlying66) ze66 ⟨_, tapi_Id, parent.1, _, _, rfl, Try.sizeOf23, (.tmp rfl), starget_spot_0, ⟨_, (tI .i64), parent.2.1, _, _, rfl, Try.sizeOf3, (.tmp rfl), starget_spot_1, rfl⟩⟩) ?_
            refine WL.opU (OpR.storeB (b := b) 8 Try.sizeOf66 (Cellable.is ttarget_spot (⟨parent.1, parent.2.1⟩ : target_spot)) rfl (.tmp rfl) (.tmp rfl)) (fun _ => ?_)
            refine WL.op rfl (Op1.assign (.int (inR64.2 (by omega)))) ?_
            refine WL.ns ?_
            cases hm
            exact W.retQ2 () rfl rfl (ResAt.cell 8 Try.isAgg66 Try.sizeOf66 rfl (.tmp rfl)) (ResAt.tmp (.tmp rfl)) trivial
          · have hp23 := of_decide_eq_false hc22
            rw [if_neg hp23] at hm
            refine W.skip ?_
            refine WN.seq ?_
            refine W.seq ?_
            obtain ⟨leads, hv24, hm⟩ := bind_some hm
            obtain ⟨v1, hv25, hm⟩ := bind_some hm
            obtain ⟨v2, hv26, hm⟩ := bind_some hm
            refine W.weakR (res' := [(8, (Bx 4 true 66 (ttarget_spot.is ztarget_spot) b))]) ⟨rfl, rfl, trivial⟩ ?_
            refine W.drawM [.c ((tA 4 (tFun Try.prog (fun (f : api_Unit → api_Id → Option (target_spot × Int)) => (fun s : api_Unit × api_Id × (target_spot × Int) => f s.1 s.2.1 = some s.2.2)) (fun s : api_Unit × api_Id × (target_spot × Int) => [tapi_Unit.is s.1, tapi_Id.is s.2.1]) (fun s : api_Unit × api_Id × (target_spot × Int) => (Asn.tuple2 (ttarget_spot.is s.2.2.1) ((tI .i64).is s.2.2.2))))).is leads), .c ((tI .i64).is where0_), .c ((tFun Try.prog (fun (f : api_Unit → api_Id → Option (target_spot × Int)) => (fun s : api_Unit × api_Id × (target_spot × Int) => f s.1 s.2.1 = some s.2.2)) (fun s : api_Unit × api_Id × (target_spot × Int) => [tapi_Unit.is s.1, tapi_Id.is s.2.1]) (fun s : api_Unit × api_Id × (target_spot × Int) => (Asn.tuple2 (ttarget_spot.is s.2.2.1) ((tI .i64).is s.2.2.2)))).is v1), .c (tapi_Unit.is u), .c (tapi_Id.is to), .c (Asn.tuple2 (ttarget_spot.is v2.1) ((tI .i64).is v2.2)), .c (Asn.tuple2 (ttarget_spot.is v2.1) ((tI .i64).is v2.2)), .c (ttarget_spot.is v2.1), .c ((tI .i64).is v2.2), .f (fun cv => (Bp (bk (cv 0)) 0)), .c Asn.any, .c ((tI .i64).is v2.2)] [([], []), ([], [3]), ([0, 1], []), ([], [4]), ([], [6]), ([2, 3, 4], []), ([5], []), ([6], []), ([6], []), ([], []), ([7, 9], []), ([8], [])] [9, 10] [[], [], [], [], [], [], [], [], [], [true], [], []] (fun m cv => match m with | 0 => [(8, (Bx 4 true 66 (ttarget_spot.is ztarget_spot) b))] | 1 => [(15, (Bx 4 true 66 (ttarget_spot.is ztarget_spot) (bk (cv 0)))), (8, (Bx 4 true 66 (ttarget_spot.is ztarget_spot) b))] | _ => [(15, (Bx 4 true 66 (ttarget_spot.is v2.1) (bk (cv 0)))), (8, (Bx 4 true 66 (ttarget_spot.is ztarget_spot) b))]) (fun _ => none) Try.mixed rfl rfl rfl rfl rfl ⟨fun _ _ _ _ => rfl, ⟨fun _ _ _ _ => rfl, ⟨fun _ _ _ _ => rfl, ⟨fun _ _ _ _ => rfl, ⟨fun _ _ _ _ => rfl, ⟨fun _ _ _ _ => rfl, ⟨fun _ _ _ _ => rfl, ⟨fun _ _ _ _ => rfl, ⟨fun _ _ _ _ => rfl, ⟨fun m hm c t => by simp only [DA.at, upd_dep (r := [true]) (j := 0) rfl hm], ⟨fun _ _ _ _ => rfl, ⟨fun _ _ _ _ => rfl, trivial⟩⟩⟩⟩⟩⟩⟩⟩⟩⟩⟩⟩ rfl ⟨.inr ⟨fun cv => [], (fun _ _ _ _ => trivial), fun cv => Op1.call Try.call32 (target_leads_spec _ _ hv24) trivial⟩, ⟨.inr ⟨fun cv => [], (fun _ _ _ _ => trivial), fun cv => Op1.move (.tmp rfl)⟩, ⟨.inr ⟨fun cv => [], (fun _ _ _ _ => trivial), fun cv => Op1.indexA hv25 Try.underlying69 ty68 (.tmp rfl) (.tmp rfl)⟩, ⟨.inr ⟨fun cv => [], (fun _ _ _ _ => trivial), fun cv => Op1.load ty27 (.tmp rfl)⟩, ⟨.inr ⟨fun cv => [], (fun _ _ _ _ => trivial), fun cv => Op1.load ty23 (.tmp rfl)⟩, ⟨.inr ⟨fun cv => [], (fun _ _ _ _ => trivial), fun cv => Op1.callFun (ok := (fun (f : api_Unit → api_Id → Option (target_spot × Int)) => (fun s : api_Unit × api_Id × (target_spot × Int) => f s.1 s.2.1 = some s.2.2))) (As := (fun s : api_Unit × api_Id × (target_spot × Int) => [tapi_Unit.is s.1, tapi_Id.is s.2.1])) (A := (fun s : api_Unit × api_Id × (target_spot × Int) => (Asn.tuple2 (ttarget_spot.is s.2.2.1) ((tI .i64).is s.2.2.2)))) (f := v1) (s := (u, to, v2)) (.tmp rfl) hv26 ⟨(.tmp rfl), (.tmp rfl), trivial⟩⟩, ⟨.inr ⟨fun cv => [], (fun _ _ _ _ => trivial), fun cv => Op1.move (.tmp rfl)⟩, ⟨.inr ⟨fun cv => [], (fun _ _ _ _ => trivial), fun cv => Op1.extract0 (.tmp rfl)⟩, ⟨.inr ⟨fun cv => [], (fun _ _ _ _ => trivial), fun cv => Op1.extract1 (.tmp rfl)⟩, ⟨.inl rfl, ⟨.inl rfl, ⟨.inr ⟨fun cv => [], (fun _ _ _ _ => trivial), fun cv => Op1.assign (.tmp rfl)⟩, trivial⟩⟩⟩⟩⟩⟩⟩⟩⟩⟩⟩⟩ ⟨⟨_, _, _, [], (fun cv => [(15, (Bx 4 true 66 (ttarget_spot.is ztarget_spot) (bk (cv 0))))]), rfl, rfl, rfl, rfl, fun _ => rfl, fun _ _ => rfl, fun cv => OpR.viaB (OpR.alloc 15 ze66)⟩, ⟨⟨_, _, _, [15], (fun cv => [(15, (Bx 4 true 66 (ttarget_spot.is v2.1) (bk (cv 0))))]), rfl, rfl, rfl, rfl, fun _ => rfl, fun _ _ => rfl, fun cv => OpR.viaU (OpR.storeB (b := (bk (cv 0))) 15 Try.sizeOf66 (Cellable.is ttarget_spot v2.1) rfl (.tmp rfl) (.tmp rfl))⟩, trivial⟩⟩ (fun cv => ?_)
            refine WN.seq ?_
            refine W.seq ?_
            obtain ⟨s27, hs28, hk29⟩ := bind_some hm
            clear hm
            refine W.join (fun s : Bool => s = s27) (fun s => [(83, (tB.is s)), (8, (Bp b 0)), (15, (Bp (bk (cv 0)) 0)), (16, ((tI .i64).is v2.2))]) (fun s => [(8, (Bx 4 true 66 (ttarget_spot.is ztarget_spot) b)), (15, (Bx 4 true 66 (ttarget_spot.is v2.1) (bk (cv 0))))]) ?_ ?_
            · rintro v3 hj37
              try dsimp only at hj37
              subst hj37
              have hm := hk29
              clear hk29
              try dsimp only at hm
              change W _ _ _ _ _ _ _ [(83, (tB.is v3)), (8, (Bp b 0)), (15, (Bp (bk (cv 0)) 0)), (16, ((tI .i64).is v2.2))] [(8, (Bx 4 true 66 (ttarget_spot.is ztarget_spot) b)), (15, (Bx 4 true 66 (ttarget_spot.is v2.1) (bk (cv 0))))]
              refine W.cond (.tmp rfl) (fun hc34 => ?_) (fun hc34 => ?_)
              · have hp35 := hc34
                rw [if_pos hp35] at hm
                refine W.region ?_
                refine WL.op rfl (Op1.fieldAddrB (o := 0) Try.underlying66 rfl (fun w => ⟨0, Try.sizeOf3 w⟩) (.tmp rfl) rfl) ?_
                refine WL.op rfl (Op1.loadBF 15 rfl ty3 ftarget_spot_1 rfl (.tmp rfl)) ?_
                obtain ⟨v4, hv36, hm⟩ := bind_some hm
                refine WL.op rfl (Op1.subC hv36 (.tmp rfl) (.int (inR64.2 (by omega)))) ?_
                refine WL.op rfl (Op1.fieldAddrB (o := 0) Try.underlying66 rfl (fun w => ⟨0, Try.sizeOf3 w⟩) (.tmp rfl) rfl) ?_
                refine WL.opU (OpR.storeBF (b := (bk (cv 0))) 15 rfl ty3 starget_spot_1 rfl (by decide) (.tmp rfl) (.tmp rfl)) (fun _ => ?_)
                refine WL.nr ?_
                refine WL.op rfl (Op1.loadB 15 Try.isAgg66 Try.sizeOf66 rfl (.tmp rfl)) ?_
                refine WL.mv rfl rfl ?_
                refine WL.opU (OpR.storeB (b := b) 8 Try.sizeOf66 (Cellable.is ttarget_spot ({ v2.1 with at_ := v4 } : target_spot)) rfl (.tmp rfl) (.tmp rfl)) (fun _ => ?_)
                refine WL.gv rfl rfl ?_
                refine WL.ns ?_
                cases hm
                exact W.retQ2 () rfl rfl (ResAt.cell 8 Try.isAgg66 Try.sizeOf66 rfl (.tmp rfl)) (ResAt.tmp (.tmp rfl)) trivial
              · have hp35 := ne_of_false hc34
                rw [if_neg hp35] at hm
                refine W.skip ?_
                refine WN.seq ?_
                refine W.sr ?_
                refine WL.op rfl (Op1.loadB 15 Try.isAgg66 Try.sizeOf66 rfl (.tmp rfl)) ?_
                refine WL.mv rfl rfl ?_
                refine WL.opU (OpR.storeB (b := b) 8 Try.sizeOf66 (Cellable.is ttarget_spot v2.1) rfl (.tmp rfl) (.tmp rfl)) (fun _ => ?_)
                refine WL.gv rfl rfl ?_
                refine WL.ns ?_
                cases hm
                exact W.retQ2 () rfl rfl (ResAt.cell 8 Try.isAgg66 Try.sizeOf66 rfl (.tmp rfl)) (ResAt.tmp (.tmp rfl)) trivial
            · have hm := hs28
              clear hs28
              refine W.region ?_
              refine WL.mv rfl rfl ?_
              refine WL.op rfl (Op1.eqI (.tmp rfl) (.int (inR64.2 (by omega)))) ?_
              refine WL.mv rfl rfl ?_
              rcases bcases (decide (v2.2 = (0 : Int))) with hb30 | hb30
              · have hp31 := of_decide_eq_true hb30
                rw [if_pos hp31] at hm
                refine WL.run rfl rfl rfl rfl hb30 rfl rfl (Op1.fieldAddrB (o := 0) Try.underlying66 rfl (fun w => ⟨2, Try.sizeOf23 w⟩) (.tmp rfl) rfl) ?_
                refine WL.run rfl rfl rfl rfl hb30 rfl rfl (Op1.loadBF 15 rfl ty23 ftarget_spot_0 rfl (.tmp rfl)) ?_
                refine WL.run rfl rfl rfl rfl hb30 rfl rfl (Op1.load ty23 (.tmp rfl)) ?_
                refine WL.run rfl rfl rfl rfl hb30 rfl rfl (Op1.eqSt (D := 2) rfl (by decide) eg23 eq23 (.tmp rfl) (.tmp rfl)) ?_
                refine WL.op rfl (Op1.pickT (.tmp rfl) hb30 (.tmp rfl)) ?_
                refine WL.mv rfl rfl ?_
                rcases bcases (decide (v2.1.parent_ = parent.1)) with hb32 | hb32
                · have hp33 := of_decide_eq_true hb32
                  rw [if_pos hp33] at hm
                  refine WL.run rfl rfl rfl rfl hb32 rfl rfl (Op1.move (.tmp rfl)) ?_
                  refine WL.run rfl rfl rfl rfl hb32 rfl rfl (Op1.fieldAddrB (o := 0) Try.underlying66 rfl (fun w => ⟨0, Try.sizeOf3 w⟩) (.tmp rfl) rfl) ?_
                  refine WL.run rfl rfl rfl rfl hb32 rfl rfl (Op1.loadBF 15 rfl ty3 ftarget_spot_1 rfl (.tmp rfl)) ?_
                  refine WL.run rfl rfl rfl rfl hb32 rfl rfl (Op1.ltI (.tmp rfl) (.tmp rfl)) ?_
                  refine WL.op rfl (Op1.pickT (.tmp rfl) hb32 (.tmp rfl)) ?_
                  refine WL.nil ?_
                  exact WN.meet (decide (parent.2.1 < v2.1.at_)) (Option.some.inj hm) ⟨Ent.q rfl, Ent.q rfl, Ent.q rfl, Ent.q rfl, trivial⟩ ⟨rfl, rfl, ⟨rfl, rfl, trivial⟩⟩
                · have hp33 := of_decide_eq_false hb32
                  rw [if_neg hp33] at hm
                  refine WL.pass rfl rfl rfl rfl hb32 rfl rfl ?_
                  refine WL.pass rfl rfl rfl rfl hb32 rfl rfl ?_
                  refine WL.pass rfl rfl rfl rfl hb32 rfl rfl ?_
                  refine WL.pass rfl rfl rfl rfl hb32 rfl rfl ?_
                  refine WL.op rfl (Op1.pickF (.tmp rfl) hb32 .bool) ?_
                  refine WL.nil ?_
                  exact WN.meet false (Option.some.inj hm) ⟨Ent.q rfl, Ent.q rfl, Ent.q rfl, Ent.q rfl, trivial⟩ ⟨rfl, rfl, ⟨rfl, rfl, trivial⟩⟩
              · have hp31 := of_decide_eq_false hb30
                rw [if_neg hp31] at hm
                refine WL.pass rfl rfl rfl rfl hb30 rfl rfl ?_
                refine WL.pass rfl rfl rfl rfl hb30 rfl rfl ?_
                refine WL.pass rfl rfl rfl rfl hb30 rfl rfl ?_
                refine WL.pass rfl rfl rfl rfl hb30 rfl rfl ?_
                refine WL.op rfl (Op1.pickF (.tmp rfl) hb30 .bool) ?_
                refine WL.mv rfl rfl ?_
                refine WL.pass rfl rfl rfl rfl rfl rfl rfl ?_
                refine WL.pass rfl rfl rfl rfl rfl rfl rfl ?_
                refine WL.pass rfl rfl rfl rfl rfl rfl rfl ?_
                refine WL.pass rfl rfl rfl rfl rfl rfl rfl ?_
                refine WL.op rfl (Op1.pickF (.tmp rfl) rfl .bool) ?_
                refine WL.nil ?_
                exact WN.meet false (Option.some.inj hm) ⟨Ent.q rfl, Ent.q rfl, Ent.q rfl, Ent.q rfl, trivial⟩ ⟨rfl, rfl, ⟨rfl, rfl, trivial⟩⟩
      · have hm := hs12
        clear hs12
        refine W.region ?_
        refine WL.mv rfl rfl ?_
        refine WL.op rfl (Op1.notB (.tmp rfl)) ?_
        refine WL.mv rfl rfl ?_
        rcases bcases (!parent.2.2) with hb14 | hb14
        · have hp15 := not_pos hb14
          rw [if_pos hp15] at hm
          refine WL.pass rfl rfl rfl rfl hb14 rfl rfl ?_
          refine WL.op rfl (Op1.pickT (.tmp rfl) hb14 .bool) ?_
          refine WL.mv rfl rfl ?_
          refine WL.pass rfl rfl rfl rfl rfl rfl rfl ?_
          refine WL.pass rfl rfl rfl rfl rfl rfl rfl ?_
          refine WL.pass rfl rfl rfl rfl rfl rfl rfl ?_
          refine WL.pass rfl rfl rfl rfl rfl rfl rfl ?_
          refine WL.pass2 rfl rfl rfl rfl rfl rfl ?_
          refine WL.pass2 rfl rfl rfl rfl rfl rfl ?_
          refine WL.pass rfl rfl rfl rfl rfl rfl rfl ?_
          refine WL.op rfl (Op1.pickT (.tmp rfl) rfl .bool) ?_
          refine WL.nil ?_
          exact WN.meet true (Option.some.inj hm) ⟨Ent.q rfl, Ent.q rfl, Ent.q rfl, Ent.q rfl, Ent.q rfl, Ent.q rfl, Ent.q rfl, Ent.q rfl, trivial⟩ ⟨rfl, rfl, trivial⟩
        · have hp15 := not_neg hb14
          rw [if_neg hp15] at hm
          refine WL.run rfl rfl rfl rfl hb14 rfl rfl (Op1.move (.tmp rfl)) ?_
          refine WL.op rfl (Op1.pickF (.tmp rfl) hb14 (.tmp rfl)) ?_
          refine WL.mv rfl rfl ?_
          rcases bcases (id1) with hb16 | hb16
          · have hp17 := hb16
            rw [if_pos hp17] at hm
            refine WL.pass rfl rfl rfl rfl hb16 rfl rfl ?_
            refine WL.pass rfl rfl rfl rfl hb16 rfl rfl ?_
            refine WL.pass rfl rfl rfl rfl hb16 rfl rfl ?_
            refine WL.pass rfl rfl rfl rfl hb16 rfl rfl ?_
            refine WL.pass2 rfl rfl rfl rfl rfl rfl ?_
            refine WL.pass2 rfl rfl rfl rfl rfl rfl ?_
            refine WL.pass rfl rfl rfl rfl hb16 rfl rfl ?_
            refine WL.op rfl (Op1.pickT (.tmp rfl) hb16 .bool) ?_
            refine WL.nil ?_
            exact WN.meet true (Option.some.inj hm) ⟨Ent.q rfl, Ent.q rfl, Ent.q rfl, Ent.q rfl, Ent.q rfl, Ent.q rfl, Ent.q rfl, Ent.q rfl, trivial⟩ ⟨rfl, rfl, trivial⟩
          · have hp17 := ne_of_false hb16
            rw [if_neg hp17] at hm
            refine WL.run rfl rfl rfl rfl hb16 rfl rfl (Op1.load ty23 (.tmp rfl)) ?_
            refine WL.run rfl rfl rfl rfl hb16 rfl rfl (Op1.load ty23 (.tmp rfl)) ?_
            refine WL.run rfl rfl rfl rfl hb16 rfl rfl (Op1.eqSt (D := 2) rfl (by decide) eg23 eq23 (.tmp rfl) (.tmp rfl)) ?_
            refine WL.run rfl rfl rfl rfl hb16 rfl rfl (Op1.move (.tmp rfl)) ?_
            rcases bcases (decide (to = id)) with hb18 | hb18
            · have hp19 := of_decide_eq_true hb18
              rw [if_pos hp19] at hm
              refine WL.run rfl rfl rfl rfl hb18 rfl rfl (Op1.move (.tmp rfl)) ?_
              refine WL.run rfl rfl rfl rfl hb18 rfl rfl (Op1.notB (.tmp rfl)) ?_
              refine WL.run rfl rfl rfl rfl hb16 rfl rfl (Op1.pickT (.tmp rfl) hb18 (.tmp rfl)) ?_
              refine WL.op rfl (Op1.pickF (.tmp rfl) hb16 (.tmp rfl)) ?_
              refine WL.nil ?_
              exact WN.meet (!besides) (Option.some.inj hm) ⟨Ent.q rfl, Ent.q rfl, Ent.q rfl, Ent.q rfl, Ent.q rfl, Ent.q rfl, Ent.q rfl, Ent.q rfl, trivial⟩ ⟨rfl, rfl, trivial⟩
            · have hp19 := of_decide_eq_false hb18
              rw [if_neg hp19] at hm
              refine WL.pass rfl rfl rfl rfl hb18 rfl rfl ?_
              refine WL.pass rfl rfl rfl rfl hb18 rfl rfl ?_
              refine WL.run rfl rfl rfl rfl hb16 rfl rfl (Op1.pickF (.tmp rfl) hb18 .bool) ?_
              refine WL.op rfl (Op1.pickF (.tmp rfl) hb16 (.tmp rfl)) ?_
              refine WL.nil ?_
              exact WN.meet false (Option.some.inj hm) ⟨Ent.q rfl, Ent.q rfl, Ent.q rfl, Ent.q rfl, Ent.q rfl, Ent.q rfl, Ent.q rfl, Ent.q rfl, trivial⟩ ⟨rfl, rfl, trivial⟩
    · have hp8 := of_decide_eq_false hb7
      rw [if_neg hp8] at hm
      refine W.draw [.c (tapi_Id.is to), .c (tapi_Id.is id), .c (tB.is (decide (to ≠ id))), .c (tB.is (decide (to ≠ id))), .c (Asn.eq undef), .c (Asn.eq undef), .c (Asn.eq undef), .c (Asn.eq undef), .c (Asn.eq undef), .c (tB.is false), .c (tB.is false)] [([], [6]), ([], [5]), ([0, 1], []), ([2], []), ([3], [4]), ([3], [6]), ([3, 4, 5], []), ([3], [5]), ([3, 6, 7], []), ([3, 8], []), ([9], [])] Try.mixed rfl rfl rfl rfl ⟨.inr (Op1.load ty23 (.tmp rfl)), .inr (Op1.load ty23 (.tmp rfl)), .inr (Op1.neSt (D := 2) rfl (by decide) eg23 eq23 (.tmp rfl) (.tmp rfl)), .inr (Op1.move (.tmp rfl)), .inr ⟨_, _, _, rfl, rfl, .inl ⟨rfl, .inr ⟨hb7, rfl⟩⟩⟩, .inr ⟨_, _, _, rfl, rfl, .inl ⟨rfl, .inr ⟨hb7, rfl⟩⟩⟩, .inr ⟨_, _, _, rfl, rfl, .inl ⟨rfl, .inr ⟨hb7, rfl⟩⟩⟩, .inr ⟨_, _, _, rfl, rfl, .inl ⟨rfl, .inr ⟨hb7, rfl⟩⟩⟩, .inr ⟨_, _, _, rfl, rfl, .inl ⟨rfl, .inr ⟨hb7, rfl⟩⟩⟩, .inr (Op1.pickF (.tmp rfl) hb7 .bool), .inr (Op1.assign (.tmp rfl)), trivial⟩ ?_
      refine WN.seq ?_
      refine W.seq ?_
      obtain ⟨s39, hs40, hk41⟩ := bind_some hm
      clear hm
      refine W.join (fun s : Bool => s = s39) (fun s => [(53, (tB.is s)), (3, ((tI .i64).is where0_)), (4, (tapi_Unit.ptr u)), (5, (tapi_Id.ptr id)), (6, (tapi_Id.ptr to)), (8, (Bp b 0)), (11, (tapi_Id.ptr parent.1)), (12, ((tI .i64).is parent.2.1))]) (fun s => [(8, (Bx 4 true 66 (ttarget_spot.is ztarget_spot) b))]) ?_ ?_
      · rintro v5 hj64
        try dsimp only at hj64
        subst hj64
        have hm := hk41
        clear hk41
        try dsimp only at hm
        change W _ _ _ _ _ _ _ [(53, (tB.is v5)), (3, ((tI .i64).is where0_)), (4, (tapi_Unit.ptr u)), (5, (tapi_Id.ptr id)), (6, (tapi_Id.ptr to)), (8, (Bp b 0)), (11, (tapi_Id.ptr parent.1)), (12, ((tI .i64).is parent.2.1))] [(8, (Bx 4 true 66 (ttarget_spot.is ztarget_spot) b))]
        refine W.cond (.tmp rfl) (fun hc46 => ?_) (fun hc46 => ?_)
        · have hp47 := hc46
          rw [if_pos hp47] at hm
          refine W.sr ?_
          refine WL.op rfl (Op1.build (s := ttarget_spot) (x := (⟨zapi_Id, (0 : Int)⟩ : target_spot)) ztarget_spot_f rfl Try.underlying66 (ztarget_spot_sz _ Try.underlying66) ze66 rfl) ?_
          refine WL.opU (OpR.storeB (b := b) 8 Try.sizeOf66 (Cellable.is ttarget_spot (⟨zapi_Id, (0 : Int)⟩ : target_spot)) rfl (.tmp rfl) (.tmp rfl)) (fun _ => ?_)
          refine WL.op rfl (Op1.assign (.int (inR64.2 (by omega)))) ?_
          refine WL.ns ?_
          cases hm
          exact W.retQ2 () rfl rfl (ResAt.cell 8 Try.isAgg66 Try.sizeOf66 rfl (.tmp rfl)) (ResAt.tmp (.tmp rfl)) trivial
        · have hp47 := ne_of_false hc46
          rw [if_neg hp47] at hm
          refine W.skip ?_
          refine WN.seq ?_
          refine W.seq ?_
          refine W.sr ?_
          refine WL.op rfl (Op1.load ty23 (.tmp rfl)) ?_
          refine WL.op rfl (Op1.load ty23 (.tmp rfl)) ?_
          refine WL.op rfl (Op1.eqSt (D := 2) rfl (by decide) eg23 eq23 (.tmp rfl) (.tmp rfl)) ?_
          refine WL.ns ?_
          refine W.cond (.tmp rfl) (fun hc48 => ?_) (fun hc48 => ?_)
          · have hp49 := of_decide_eq_true hc48
            rw [if_pos hp49] at hm
            refine W.sr ?_
            refine WL.op rfl (Op1.load ty23 (.tmp rfl)) ?_
            refine WL.mv rfl rfl ?_
            refine WL.op rfl (Op1.build (s := ttarget_spot) (x := (⟨parent.1, parent.2.1⟩ : target_spot)) ztarget_spot_f rfl Try.underlying66 (ztarget_spot_sz _ Try.underlying66) ze66 ⟨_, tapi_Id, parent.1, _, _, rfl, Try.sizeOf23, (.tmp rfl), starget_spot_0, ⟨_, (tI .i64), parent.2.1, _, _, rfl, Try.sizeOf3, (.tmp rfl), starget_spot_1, rfl⟩⟩) ?_
            refine WL.opU (OpR.storeB (b := b) 8 Try.sizeOf66 (Cellable.is ttarget_spot (⟨parent.1, parent.2.1⟩ : target_spot)) rfl (.tmp rfl) (.tmp rfl)) (fun _ => ?_)
            refine WL.op rfl (Op1.assign (.int (inR64.2 (by omega)))) ?_
            refine WL.ns ?_
            cases hm
            exact W.retQ2 () rfl rfl (ResAt.cell 8 Try.isAgg66 Try.sizeOf66 rfl (.tmp rfl)) (ResAt.tmp (.tmp rfl)) trivial
          · have hp49 := of_decide_eq_false hc48
            rw [if_neg hp49] at hm
            refine W.skip ?_
            refine WN.seq ?_
            refine W.seq ?_
            obtain ⟨leads1, hv50, hm⟩ := bind_some hm
            obtain ⟨v6, hv51, hm⟩ := bind_some hm
            obtain ⟨v7, hv52, hm⟩ := bind_some hm
            refine W.weakR (res' := [(8, (Bx 4 true 66 (ttarget_spot.is ztarget_spot) b))]) ⟨rfl, rfl, trivial⟩ ?_
            refine W.drawM [.c ((tA 4 (tFun Try.prog (fun (f : api_Unit → api_Id → Option (target_spot × Int)) => (fun s : api_Unit × api_Id × (target_spot × Int) => f s.1 s.2.1 = some s.2.2)) (fun s : api_Unit × api_Id × (target_spot × Int) => [tapi_Unit.is s.1, tapi_Id.is s.2.1]) (fun s : api_Unit × api_Id × (target_spot × Int) => (Asn.tuple2 (ttarget_spot.is s.2.2.1) ((tI .i64).is s.2.2.2))))).is leads1), .c ((tI .i64).is where0_), .c ((tFun Try.prog (fun (f : api_Unit → api_Id → Option (target_spot × Int)) => (fun s : api_Unit × api_Id × (target_spot × Int) => f s.1 s.2.1 = some s.2.2)) (fun s : api_Unit × api_Id × (target_spot × Int) => [tapi_Unit.is s.1, tapi_Id.is s.2.1]) (fun s : api_Unit × api_Id × (target_spot × Int) => (Asn.tuple2 (ttarget_spot.is s.2.2.1) ((tI .i64).is s.2.2.2)))).is v6), .c (tapi_Unit.is u), .c (tapi_Id.is to), .c (Asn.tuple2 (ttarget_spot.is v7.1) ((tI .i64).is v7.2)), .c (Asn.tuple2 (ttarget_spot.is v7.1) ((tI .i64).is v7.2)), .c (ttarget_spot.is v7.1), .c ((tI .i64).is v7.2), .f (fun cv1 => (Bp (bk (cv1 0)) 0)), .c Asn.any, .c ((tI .i64).is v7.2)] [([], []), ([], [3]), ([0, 1], []), ([], [4]), ([], [6]), ([2, 3, 4], []), ([5], []), ([6], []), ([6], []), ([], []), ([7, 9], []), ([8], [])] [9, 10] [[], [], [], [], [], [], [], [], [], [true], [], []] (fun m cv1 => match m with | 0 => [(8, (Bx 4 true 66 (ttarget_spot.is ztarget_spot) b))] | 1 => [(15, (Bx 4 true 66 (ttarget_spot.is ztarget_spot) (bk (cv1 0)))), (8, (Bx 4 true 66 (ttarget_spot.is ztarget_spot) b))] | _ => [(15, (Bx 4 true 66 (ttarget_spot.is v7.1) (bk (cv1 0)))), (8, (Bx 4 true 66 (ttarget_spot.is ztarget_spot) b))]) (fun _ => none) Try.mixed rfl rfl rfl rfl rfl ⟨fun _ _ _ _ => rfl, ⟨fun _ _ _ _ => rfl, ⟨fun _ _ _ _ => rfl, ⟨fun _ _ _ _ => rfl, ⟨fun _ _ _ _ => rfl, ⟨fun _ _ _ _ => rfl, ⟨fun _ _ _ _ => rfl, ⟨fun _ _ _ _ => rfl, ⟨fun _ _ _ _ => rfl, ⟨fun m hm c t => by simp only [DA.at, upd_dep (r := [true]) (j := 0) rfl hm], ⟨fun _ _ _ _ => rfl, ⟨fun _ _ _ _ => rfl, trivial⟩⟩⟩⟩⟩⟩⟩⟩⟩⟩⟩⟩ rfl ⟨.inr ⟨fun cv1 => [], (fun _ _ _ _ => trivial), fun cv1 => Op1.call Try.call32 (target_leads_spec _ _ hv50) trivial⟩, ⟨.inr ⟨fun cv1 => [], (fun _ _ _ _ => trivial), fun cv1 => Op1.move (.tmp rfl)⟩, ⟨.inr ⟨fun cv1 => [], (fun _ _ _ _ => trivial), fun cv1 => Op1.indexA hv51 Try.underlying69 ty68 (.tmp rfl) (.tmp rfl)⟩, ⟨.inr ⟨fun cv1 => [], (fun _ _ _ _ => trivial), fun cv1 => Op1.load ty27 (.tmp rfl)⟩, ⟨.inr ⟨fun cv1 => [], (fun _ _ _ _ => trivial), fun cv1 => Op1.load ty23 (.tmp rfl)⟩, ⟨.inr ⟨fun cv1 => [], (fun _ _ _ _ => trivial), fun cv1 => Op1.callFun (ok := (fun (f : api_Unit → api_Id → Option (target_spot × Int)) => (fun s : api_Unit × api_Id × (target_spot × Int) => f s.1 s.2.1 = some s.2.2))) (As := (fun s : api_Unit × api_Id × (target_spot × Int) => [tapi_Unit.is s.1, tapi_Id.is s.2.1])) (A := (fun s : api_Unit × api_Id × (target_spot × Int) => (Asn.tuple2 (ttarget_spot.is s.2.2.1) ((tI .i64).is s.2.2.2)))) (f := v6) (s := (u, to, v7)) (.tmp rfl) hv52 ⟨(.tmp rfl), (.tmp rfl), trivial⟩⟩, ⟨.inr ⟨fun cv1 => [], (fun _ _ _ _ => trivial), fun cv1 => Op1.move (.tmp rfl)⟩, ⟨.inr ⟨fun cv1 => [], (fun _ _ _ _ => trivial), fun cv1 => Op1.extract0 (.tmp rfl)⟩, ⟨.inr ⟨fun cv1 => [], (fun _ _ _ _ => trivial), fun cv1 => Op1.extract1 (.tmp rfl)⟩, ⟨.inl rfl, ⟨.inl rfl, ⟨.inr ⟨fun cv1 => [], (fun _ _ _ _ => trivial), fun cv1 => Op1.assign (.tmp rfl)⟩, trivial⟩⟩⟩⟩⟩⟩⟩⟩⟩⟩⟩⟩ ⟨⟨_, _, _, [], (fun cv1 => [(15, (Bx 4 true 66 (ttarget_spot.is ztarget_spot) (bk (cv1 0))))]), rfl, rfl, rfl, rfl, fun _ => rfl, fun _ _ => rfl, fun cv1 => OpR.viaB (OpR.alloc 15 ze66)⟩, ⟨⟨_, _, _, [15], (fun cv1 => [(15, (Bx 4 true 66 (ttarget_spot.is v7.1) (bk (cv1 0))))]), rfl, rfl, rfl, rfl, fun _ => rfl, fun _ _ => rfl, fun cv1 => OpR.viaU (OpR.storeB (b := (bk (cv1 0))) 15 Try.sizeOf66 (Cellable.is ttarget_spot v7.1) rfl (.tmp rfl) (.tmp rfl))⟩, trivial⟩⟩ (fun cv1 => ?_)
            refine WN.seq ?_
            refine W.seq ?_
            obtain ⟨s53, hs54, hk55⟩ := bind_some hm
            clear hm
            refine W.join (fun s : Bool => s = s53) (fun s => [(83, (tB.is s)), (8, (Bp b 0)), (15, (Bp (bk (cv1 0)) 0)), (16, ((tI .i64).is v7.2))]) (fun s => [(8, (Bx 4 true 66 (ttarget_spot.is ztarget_spot) b)), (15, (Bx 4 true 66 (ttarget_spot.is v7.1) (bk (cv1 0))))]) ?_ ?_
            · rintro v8 hj63
              try dsimp only at hj63
              subst hj63
              have hm := hk55
              clear hk55
              try dsimp only at hm
              change W _ _ _ _ _ _ _ [(83, (tB.is v8)), (8, (Bp b 0)), (15, (Bp (bk (cv1 0)) 0)), (16, ((tI .i64).is v7.2))] [(8, (Bx 4 true 66 (ttarget_spot.is ztarget_spot) b)), (15, (Bx 4 true 66 (ttarget_spot.is v7.1) (bk (cv1 0))))]
              refine W.cond (.tmp rfl) (fun hc60 => ?_) (fun hc60 => ?_)
              · have hp61 := hc60
                rw [if_pos hp61] at hm
                refine W.region ?_
                refine WL.op rfl (Op1.fieldAddrB (o := 0) Try.underlying66 rfl (fun w => ⟨0, Try.sizeOf3 w⟩) (.tmp rfl) rfl) ?_
                refine WL.op rfl (Op1.loadBF 15 rfl ty3 ftarget_spot_1 rfl (.tmp rfl)) ?_
                obtain ⟨v9, hv62, hm⟩ := bind_some hm
                refine WL.op rfl (Op1.subC hv62 (.tmp rfl) (.int (inR64.2 (by omega)))) ?_
                refine WL.op rfl (Op1.fieldAddrB (o := 0) Try.underlying66 rfl (fun w => ⟨0, Try.sizeOf3 w⟩) (.tmp rfl) rfl) ?_
                refine WL.opU (OpR.storeBF (b := (bk (cv1 0))) 15 rfl ty3 starget_spot_1 rfl (by decide) (.tmp rfl) (.tmp rfl)) (fun _ => ?_)
                refine WL.nr ?_
                refine WL.op rfl (Op1.loadB 15 Try.isAgg66 Try.sizeOf66 rfl (.tmp rfl)) ?_
                refine WL.mv rfl rfl ?_
                refine WL.opU (OpR.storeB (b := b) 8 Try.sizeOf66 (Cellable.is ttarget_spot ({ v7.1 with at_ := v9 } : target_spot)) rfl (.tmp rfl) (.tmp rfl)) (fun _ => ?_)
                refine WL.gv rfl rfl ?_
                refine WL.ns ?_
                cases hm
                exact W.retQ2 () rfl rfl (ResAt.cell 8 Try.isAgg66 Try.sizeOf66 rfl (.tmp rfl)) (ResAt.tmp (.tmp rfl)) trivial
              · have hp61 := ne_of_false hc60
                rw [if_neg hp61] at hm
                refine W.skip ?_
                refine WN.seq ?_
                refine W.sr ?_
                refine WL.op rfl (Op1.loadB 15 Try.isAgg66 Try.sizeOf66 rfl (.tmp rfl)) ?_
                refine WL.mv rfl rfl ?_
                refine WL.opU (OpR.storeB (b := b) 8 Try.sizeOf66 (Cellable.is ttarget_spot v7.1) rfl (.tmp rfl) (.tmp rfl)) (fun _ => ?_)
                refine WL.gv rfl rfl ?_
                refine WL.ns ?_
                cases hm
                exact W.retQ2 () rfl rfl (ResAt.cell 8 Try.isAgg66 Try.sizeOf66 rfl (.tmp rfl)) (ResAt.tmp (.tmp rfl)) trivial
            · have hm := hs54
              clear hs54
              refine W.region ?_
              refine WL.mv rfl rfl ?_
              refine WL.op rfl (Op1.eqI (.tmp rfl) (.int (inR64.2 (by omega)))) ?_
              refine WL.mv rfl rfl ?_
              rcases bcases (decide (v7.2 = (0 : Int))) with hb56 | hb56
              · have hp57 := of_decide_eq_true hb56
                rw [if_pos hp57] at hm
                refine WL.run rfl rfl rfl rfl hb56 rfl rfl (Op1.fieldAddrB (o := 0) Try.underlying66 rfl (fun w => ⟨2, Try.sizeOf23 w⟩) (.tmp rfl) rfl) ?_
                refine WL.run rfl rfl rfl rfl hb56 rfl rfl (Op1.loadBF 15 rfl ty23 ftarget_spot_0 rfl (.tmp rfl)) ?_
                refine WL.run rfl rfl rfl rfl hb56 rfl rfl (Op1.load ty23 (.tmp rfl)) ?_
                refine WL.run rfl rfl rfl rfl hb56 rfl rfl (Op1.eqSt (D := 2) rfl (by decide) eg23 eq23 (.tmp rfl) (.tmp rfl)) ?_
                refine WL.op rfl (Op1.pickT (.tmp rfl) hb56 (.tmp rfl)) ?_
                refine WL.mv rfl rfl ?_
                rcases bcases (decide (v7.1.parent_ = parent.1)) with hb58 | hb58
                · have hp59 := of_decide_eq_true hb58
                  rw [if_pos hp59] at hm
                  refine WL.run rfl rfl rfl rfl hb58 rfl rfl (Op1.move (.tmp rfl)) ?_
                  refine WL.run rfl rfl rfl rfl hb58 rfl rfl (Op1.fieldAddrB (o := 0) Try.underlying66 rfl (fun w => ⟨0, Try.sizeOf3 w⟩) (.tmp rfl) rfl) ?_
                  refine WL.run rfl rfl rfl rfl hb58 rfl rfl (Op1.loadBF 15 rfl ty3 ftarget_spot_1 rfl (.tmp rfl)) ?_
                  refine WL.run rfl rfl rfl rfl hb58 rfl rfl (Op1.ltI (.tmp rfl) (.tmp rfl)) ?_
                  refine WL.op rfl (Op1.pickT (.tmp rfl) hb58 (.tmp rfl)) ?_
                  refine WL.nil ?_
                  exact WN.meet (decide (parent.2.1 < v7.1.at_)) (Option.some.inj hm) ⟨Ent.q rfl, Ent.q rfl, Ent.q rfl, Ent.q rfl, trivial⟩ ⟨rfl, rfl, ⟨rfl, rfl, trivial⟩⟩
                · have hp59 := of_decide_eq_false hb58
                  rw [if_neg hp59] at hm
                  refine WL.pass rfl rfl rfl rfl hb58 rfl rfl ?_
                  refine WL.pass rfl rfl rfl rfl hb58 rfl rfl ?_
                  refine WL.pass rfl rfl rfl rfl hb58 rfl rfl ?_
                  refine WL.pass rfl rfl rfl rfl hb58 rfl rfl ?_
                  refine WL.op rfl (Op1.pickF (.tmp rfl) hb58 .bool) ?_
                  refine WL.nil ?_
                  exact WN.meet false (Option.some.inj hm) ⟨Ent.q rfl, Ent.q rfl, Ent.q rfl, Ent.q rfl, trivial⟩ ⟨rfl, rfl, ⟨rfl, rfl, trivial⟩⟩
              · have hp57 := of_decide_eq_false hb56
                rw [if_neg hp57] at hm
                refine WL.pass rfl rfl rfl rfl hb56 rfl rfl ?_
                refine WL.pass rfl rfl rfl rfl hb56 rfl rfl ?_
                refine WL.pass rfl rfl rfl rfl hb56 rfl rfl ?_
                refine WL.pass rfl rfl rfl rfl hb56 rfl rfl ?_
                refine WL.op rfl (Op1.pickF (.tmp rfl) hb56 .bool) ?_
                refine WL.mv rfl rfl ?_
                refine WL.pass rfl rfl rfl rfl rfl rfl rfl ?_
                refine WL.pass rfl rfl rfl rfl rfl rfl rfl ?_
                refine WL.pass rfl rfl rfl rfl rfl rfl rfl ?_
                refine WL.pass rfl rfl rfl rfl rfl rfl rfl ?_
                refine WL.op rfl (Op1.pickF (.tmp rfl) rfl .bool) ?_
                refine WL.nil ?_
                exact WN.meet false (Option.some.inj hm) ⟨Ent.q rfl, Ent.q rfl, Ent.q rfl, Ent.q rfl, trivial⟩ ⟨rfl, rfl, ⟨rfl, rfl, trivial⟩⟩
      · have hm := hs40
        clear hs40
        refine W.region ?_
        refine WL.mv rfl rfl ?_
        refine WL.op rfl (Op1.notB (.tmp rfl)) ?_
        refine WL.mv rfl rfl ?_
        rcases bcases (!parent.2.2) with hb42 | hb42
        · have hp43 := not_pos hb42
          rw [if_pos hp43] at hm
          refine WL.pass rfl rfl rfl rfl hb42 rfl rfl ?_
          refine WL.op rfl (Op1.pickT (.tmp rfl) hb42 .bool) ?_
          refine WL.mv rfl rfl ?_
          refine WL.pass rfl rfl rfl rfl rfl rfl rfl ?_
          refine WL.pass rfl rfl rfl rfl rfl rfl rfl ?_
          refine WL.pass rfl rfl rfl rfl rfl rfl rfl ?_
          refine WL.pass rfl rfl rfl rfl rfl rfl rfl ?_
          refine WL.pass2 rfl rfl rfl rfl rfl rfl ?_
          refine WL.pass2 rfl rfl rfl rfl rfl rfl ?_
          refine WL.pass rfl rfl rfl rfl rfl rfl rfl ?_
          refine WL.op rfl (Op1.pickT (.tmp rfl) rfl .bool) ?_
          refine WL.nil ?_
          exact WN.meet true (Option.some.inj hm) ⟨Ent.q rfl, Ent.q rfl, Ent.q rfl, Ent.q rfl, Ent.q rfl, Ent.q rfl, Ent.q rfl, Ent.q rfl, trivial⟩ ⟨rfl, rfl, trivial⟩
        · have hp43 := not_neg hb42
          rw [if_neg hp43] at hm
          refine WL.run rfl rfl rfl rfl hb42 rfl rfl (Op1.move (.tmp rfl)) ?_
          refine WL.op rfl (Op1.pickF (.tmp rfl) hb42 (.tmp rfl)) ?_
          refine WL.mv rfl rfl ?_
          refine WL.run rfl rfl rfl rfl rfl rfl rfl (Op1.load ty23 (.tmp rfl)) ?_
          refine WL.run rfl rfl rfl rfl rfl rfl rfl (Op1.load ty23 (.tmp rfl)) ?_
          refine WL.run rfl rfl rfl rfl rfl rfl rfl (Op1.eqSt (D := 2) rfl (by decide) eg23 eq23 (.tmp rfl) (.tmp rfl)) ?_
          refine WL.run rfl rfl rfl rfl rfl rfl rfl (Op1.move (.tmp rfl)) ?_
          rcases bcases (decide (to = id)) with hb44 | hb44
          · have hp45 := of_decide_eq_true hb44
            rw [if_pos hp45] at hm
            refine WL.run rfl rfl rfl rfl hb44 rfl rfl (Op1.move (.tmp rfl)) ?_
            refine WL.run rfl rfl rfl rfl hb44 rfl rfl (Op1.notB (.tmp rfl)) ?_
            refine WL.run rfl rfl rfl rfl rfl rfl rfl (Op1.pickT (.tmp rfl) hb44 (.tmp rfl)) ?_
            refine WL.op rfl (Op1.pickF (.tmp rfl) rfl (.tmp rfl)) ?_
            refine WL.nil ?_
            exact WN.meet (!besides) (Option.some.inj hm) ⟨Ent.q rfl, Ent.q rfl, Ent.q rfl, Ent.q rfl, Ent.q rfl, Ent.q rfl, Ent.q rfl, Ent.q rfl, trivial⟩ ⟨rfl, rfl, trivial⟩
          · have hp45 := of_decide_eq_false hb44
            rw [if_neg hp45] at hm
            refine WL.pass rfl rfl rfl rfl hb44 rfl rfl ?_
            refine WL.pass rfl rfl rfl rfl hb44 rfl rfl ?_
            refine WL.run rfl rfl rfl rfl rfl rfl rfl (Op1.pickF (.tmp rfl) hb44 .bool) ?_
            refine WL.op rfl (Op1.pickF (.tmp rfl) rfl (.tmp rfl)) ?_
            refine WL.nil ?_
            exact WN.meet false (Option.some.inj hm) ⟨Ent.q rfl, Ent.q rfl, Ent.q rfl, Ent.q rfl, Ent.q rfl, Ent.q rfl, Ent.q rfl, Ent.q rfl, trivial⟩ ⟨rfl, rfl, trivial⟩
  · have hm := hs2
    clear hs2
    refine W.region ?_
    refine WL.mv rfl rfl ?_
    refine WL.op rfl (Op1.eqI (.tmp rfl) (.int (inR64.2 (by omega)))) ?_
    refine WL.mv rfl rfl ?_
    rcases bcases (decide (where0_ = (2 : Int))) with hb4 | hb4
    · have hp5 := of_decide_eq_true hb4
      rw [if_pos hp5] at hm
      refine WL.pass rfl rfl rfl rfl hb4 rfl rfl ?_
      refine WL.pass rfl rfl rfl rfl hb4 rfl rfl ?_
      refine WL.op rfl (Op1.pickT (.tmp rfl) hb4 .bool) ?_
      refine WL.gv rfl rfl ?_
      refine WL.nil ?_
      exact WN.meet true (Option.some.inj hm) ⟨Ent.q rfl, Ent.q rfl, Ent.q rfl, Ent.q rfl, Ent.q rfl, Ent.q rfl, trivial⟩ ⟨rfl, rfl, trivial⟩
    · have hp5 := of_decide_eq_false hb4
      rw [if_neg hp5] at hm
      refine WL.run rfl rfl rfl rfl hb4 rfl rfl (Op1.move (.tmp rfl)) ?_
      refine WL.run rfl rfl rfl rfl hb4 rfl rfl (Op1.eqI (.tmp rfl) (.int (inR64.2 (by omega)))) ?_
      refine WL.op rfl (Op1.pickF (.tmp rfl) hb4 (.tmp rfl)) ?_
      refine WL.gv rfl rfl ?_
      refine WL.nil ?_
      exact WN.meet (decide (where0_ = (3 : Int))) (Option.some.inj hm) ⟨Ent.q rfl, Ent.q rfl, Ent.q rfl, Ent.q rfl, Ent.q rfl, Ent.q rfl, trivial⟩ ⟨rfl, rfl, trivial⟩

theorem target_Destination_spec (n : Nat) (u : api_Unit) (it : api_Item) (r : api_Id × Int × Int) (hm : M.target_Destination n u it = some r) : FSpec Try.prog 27 [(tapi_Unit.is u), (tapi_Item.is it)] (Asn.tuple3 (tapi_Id.is r.1) ((tI .i64).is r.2.1) ((tI .i64).is r.2.2)) := by
  unfold M.target_Destination at hm
  refine FSpec.of Try.func27 rfl rfl rfl (fun g0 => ?_)
  refine W.sr ?_
  refine WL.op rfl (Op1.box (.tmp rfl)) ?_
  refine WL.op rfl (Op1.box (.tmp rfl)) ?_
  refine WL.opR rfl (OpR.alloc 4 ze23) (fun b => ?_)
  refine WL.op rfl (Op1.assign (.int (inR64.2 (by omega)))) ?_
  refine WL.op rfl (Op1.assign (.int (inR64.2 (by omega)))) ?_
  refine WL.ns ?_
  refine W.seq ?_
  refine W.sr ?_
  refine WL.op rfl (Op1.fieldAddr Try.underlying37 rfl (fun w => ⟨0, Try.sizeOf3 w⟩) fapi_Item_0 (.tmp rfl)) ?_
  refine WL.op rfl (Op1.load ty3 (.tmp rfl)) ?_
  refine WL.op rfl (Op1.eqI (.tmp rfl) (.int (inR64.2 (by omega)))) ?_
  refine WL.ns ?_
  refine W.cond (.tmp rfl) (fun hc1 => ?_) (fun hc1 => ?_)
  · have hp2 := of_decide_eq_true hc1
    rw [if_pos hp2] at hm
    refine W.sr ?_
    refine WL.op rfl (Op1.load ty27 (.tmp rfl)) ?_
    refine WL.op rfl (Op1.fieldAddr Try.underlying37 rfl (fun w => ⟨0, Try.sizeOf28 w⟩) fapi_Item_1 (.tmp rfl)) ?_
    refine WL.op rfl (Op1.load ty28 (.tmp rfl)) ?_
    refine WL.op rfl (Op1.fieldAddr Try.underlying37 rfl (fun w => ⟨0, Try.sizeOf3 w⟩) fapi_Item_3 (.tmp rfl)) ?_
    refine WL.op rfl (Op1.load ty3 (.tmp rfl)) ?_
    obtain ⟨insert, hv3, hm⟩ := bind_some hm
    refine WL.op rfl (Op1.call Try.call11 (target_InsertionPoint_spec _ _ _ _ _ hv3) ⟨(.tmp rfl), (.tmp rfl), (.tmp rfl), trivial⟩) ?_
    refine WL.op rfl (Op1.extract30 (.tmp rfl)) ?_
    refine WL.op rfl (Op1.extract31 (.tmp rfl)) ?_
    refine WL.op rfl (Op1.extract32 (.tmp rfl)) ?_
    refine WL.opU (OpR.storeB (b := b) 4 Try.sizeOf23 (Cellable.is tapi_Id insert.1) rfl (.tmp rfl) (.tmp rfl)) (fun _ => ?_)
    refine WL.gv rfl rfl ?_
    refine WL.gv rfl rfl ?_
    refine WL.ns ?_
    cases hm
    exact W.retQ3 () rfl rfl (ResAt.cell 4 Try.isAgg23 Try.sizeOf23 rfl (.tmp rfl)) (ResAt.tmp (.tmp rfl)) (ResAt.tmp (.tmp rfl)) trivial
  · have hp2 := of_decide_eq_false hc1
    rw [if_neg hp2] at hm
    refine W.skip ?_
    refine WN.seq ?_
    refine W.seq ?_
    obtain ⟨s4, hs5, hk6⟩ := bind_some hm
    clear hm
    refine W.join (fun s : Bool => s = s4) (fun s => [(31, (tB.is s)), (2, (tapi_Unit.ptr u)), (3, (tapi_Item.ptr it)), (4, (Bp b 0))]) (fun s => [(4, (Bx 3 true 23 (tapi_Id.is zapi_Id) b))]) ?_ ?_
    · rintro v hj21
      try dsimp only at hj21
      subst hj21
      have hm := hk6
      clear hk6
      try dsimp only at hm
      change W _ _ _ _ _ _ _ [(31, (tB.is v)), (2, (tapi_Unit.ptr u)), (3, (tapi_Item.ptr it)), (4, (Bp b 0))] [(4, (Bx 3 true 23 (tapi_Id.is zapi_Id) b))]
      refine W.cond (.tmp rfl) (fun hc10 => ?_) (fun hc10 => ?_)
      · have hp11 := hc10
        rw [if_pos hp11] at hm
        refine W.sr ?_
        refine WL.op rfl (Op1.build (s := tapi_Id) (x := (⟨(0 : Int), (0 : Int), (0 : Int)⟩ : api_Id)) zapi_Id_f rfl Try.underlying23 (zapi_Id_sz _ Try.underlying23) ze23 rfl) ?_
        refine WL.opU (OpR.storeB (b := b) 4 Try.sizeOf23 (Cellable.is tapi_Id (⟨(0 : Int), (0 : Int), (0 : Int)⟩ : api_Id)) rfl (.tmp rfl) (.tmp rfl)) (fun _ => ?_)
        refine WL.op rfl (Op1.assign (.int (inR64.2 (by omega)))) ?_
        refine WL.op rfl (Op1.assign (.int (inR64.2 (by omega)))) ?_
        refine WL.ns ?_
        cases hm
        exact W.retQ3 () rfl rfl (ResAt.cell 4 Try.isAgg23 Try.sizeOf23 rfl (.tmp rfl)) (ResAt.tmp (.tmp rfl)) (ResAt.tmp (.tmp rfl)) trivial
      · have hp11 := ne_of_false hc10
        rw [if_neg hp11] at hm
        refine W.skip ?_
        refine WN.seq ?_
        refine W.sr ?_
        refine WL.op rfl (Op1.load ty27 (.tmp rfl)) ?_
        refine WL.op rfl (Op1.fieldAddr Try.underlying37 rfl (fun w => ⟨0, Try.sizeOf28 w⟩) fapi_Item_1 (.tmp rfl)) ?_
        refine WL.op rfl (Op1.load ty28 (.tmp rfl)) ?_
        obtain ⟨findon, hv12, hm⟩ := bind_some hm
        refine WL.op rfl (Op1.call Try.call26 (address_FindOne_spec _ _ _ _ hv12) ⟨(.tmp rfl), (.tmp rfl), trivial⟩) ?_
        refine WL.mv rfl rfl ?_
        refine WL.op rfl (Op1.extract0 (.tmp rfl)) ?_
        refine WL.op rfl (Op1.extract1 (.tmp rfl)) ?_
        refine WL.opR rfl (OpR.alloc 7 ze23) (fun b1 => ?_)
        refine WL.opU (OpR.storeB (b := b1) 7 Try.sizeOf23 (Cellable.is tapi_Id findon.1) rfl (.tmp rfl) (.tmp rfl)) (fun _ => ?_)
        refine WL.sealed (t := tapi_Id) (u := findon.1) 7 7 rfl rfl ?_
        refine WL.gv rfl rfl ?_
        refine WL.ns ?_
        refine W.seq ?_
        refine W.sr ?_
        refine WL.mv rfl rfl ?_
        refine WL.op rfl (Op1.neI (.tmp rfl) (.int (inR64.2 (by omega)))) ?_
        refine WL.ns ?_
        refine W.cond (.tmp rfl) (fun hc13 => ?_) (fun hc13 => ?_)
        · have hp14 := of_decide_eq_true hc13
          rw [if_pos hp14] at hm
          refine W.sr ?_
          refine WL.op rfl (Op1.build (s := tapi_Id) (x := (⟨(0 : Int), (0 : Int), (0 : Int)⟩ : api_Id)) zapi_Id_f rfl Try.underlying23 (zapi_Id_sz _ Try.underlying23) ze23 rfl) ?_
          refine WL.mv rfl rfl ?_
          refine WL.opU (OpR.storeB (b := b) 4 Try.sizeOf23 (Cellable.is tapi_Id (⟨(0 : Int), (0 : Int), (0 : Int)⟩ : api_Id)) rfl (.tmp rfl) (.tmp rfl)) (fun _ => ?_)
          refine WL.op rfl (Op1.assign (.int (inR64.2 (by omega)))) ?_
          refine WL.gv rfl rfl ?_
          refine WL.ns ?_
          cases hm
          exact W.retQ3 () rfl rfl (ResAt.cell 4 Try.isAgg23 Try.sizeOf23 rfl (.tmp rfl)) (ResAt.tmp (.tmp rfl)) (ResAt.tmp (.tmp rfl)) trivial
        · have hp14 := of_decide_eq_false hc13
          rw [if_neg hp14] at hm
          refine W.skip ?_
          refine WN.seq ?_
          refine W.sr ?_
          refine WL.op rfl (Op1.load ty27 (.tmp rfl)) ?_
          refine WL.op rfl (Op1.fieldAddr Try.underlying37 rfl (fun w => ⟨0, Try.sizeOf28 w⟩) fapi_Item_2 (.tmp rfl)) ?_
          refine WL.op rfl (Op1.load ty28 (.tmp rfl)) ?_
          obtain ⟨findon1, hv15, hm⟩ := bind_some hm
          refine WL.op rfl (Op1.call Try.call26 (address_FindOne_spec _ _ _ _ hv15) ⟨(.tmp rfl), (.tmp rfl), trivial⟩) ?_
          refine WL.mv rfl rfl ?_
          refine WL.op rfl (Op1.extract0 (.tmp rfl)) ?_
          refine WL.op rfl (Op1.extract1 (.tmp rfl)) ?_
          refine WL.opR rfl (OpR.alloc 9 ze23) (fun b2 => ?_)
          refine WL.opU (OpR.storeB (b := b2) 9 Try.sizeOf23 (Cellable.is tapi_Id findon1.1) rfl (.tmp rfl) (.tmp rfl)) (fun _ => ?_)
          refine WL.sealed (t := tapi_Id) (u := findon1.1) 9 9 rfl rfl ?_
          refine WL.gv rfl rfl ?_
          refine WL.ns ?_
          refine W.seq ?_
          refine W.sr ?_
          refine WL.mv rfl rfl ?_
          refine WL.op rfl (Op1.neI (.tmp rfl) (.int (inR64.2 (by omega)))) ?_
          refine WL.ns ?_
          refine W.cond (.tmp rfl) (fun hc16 => ?_) (fun hc16 => ?_)
          · have hp17 := of_decide_eq_true hc16
            rw [if_pos hp17] at hm
            refine W.sr ?_
            refine WL.op rfl (Op1.build (s := tapi_Id) (x := (⟨(0 : Int), (0 : Int), (0 : Int)⟩ : api_Id)) zapi_Id_f rfl Try.underlying23 (zapi_Id_sz _ Try.underlying23) ze23 rfl) ?_
            refine WL.mv rfl rfl ?_
            refine WL.opU (OpR.storeB (b := b) 4 Try.sizeOf23 (Cellable.is tapi_Id (⟨(0 : Int), (0 : Int), (0 : Int)⟩ : api_Id)) rfl (.tmp rfl) (.tmp rfl)) (fun _ => ?_)
            refine WL.op rfl (Op1.assign (.int (inR64.2 (by omega)))) ?_
            refine WL.gv rfl rfl ?_
            refine WL.ns ?_
            cases hm
            exact W.retQ3 () rfl rfl (ResAt.cell 4 Try.isAgg23 Try.sizeOf23 rfl (.tmp rfl)) (ResAt.tmp (.tmp rfl)) (ResAt.tmp (.tmp rfl)) trivial
          · have hp17 := of_decide_eq_false hc16
            rw [if_neg hp17] at hm
            refine W.skip ?_
            refine WN.seq ?_
            refine W.sr ?_
            refine WL.op rfl (Op1.load ty27 (.tmp rfl)) ?_
            refine WL.op rfl (Op1.load ty23 (.tmp rfl)) ?_
            refine WL.op rfl (Op1.load ty23 (.tmp rfl)) ?_
            refine WL.op rfl (Op1.fieldAddr Try.underlying37 rfl (fun w => ⟨0, Try.sizeOf3 w⟩) fapi_Item_3 (.tmp rfl)) ?_
            refine WL.op rfl (Op1.load ty3 (.tmp rfl)) ?_
            obtain ⟨goes, hv18, hm⟩ := bind_some hm
            refine WL.op rfl (Op1.call Try.call41 (target_goes_spec _ _ _ _ _ _ hv18) ⟨(.tmp rfl), (.tmp rfl), (.tmp rfl), (.tmp rfl), trivial⟩) ?_
            refine WL.mv rfl rfl ?_
            refine WL.op rfl (Op1.extract0 (.tmp rfl)) ?_
            refine WL.op rfl (Op1.extract1 (.tmp rfl)) ?_
            refine WL.opR rfl (OpR.alloc 10 ze66) (fun b3 => ?_)
            refine WL.opU (OpR.storeB (b := b3) 10 Try.sizeOf66 (Cellable.is ttarget_spot goes.1) rfl (.tmp rfl) (.tmp rfl)) (fun _ => ?_)
            refine WL.sealed (t := ttarget_spot) (u := goes.1) 10 10 rfl rfl ?_
            refine WL.gv rfl rfl ?_
            refine WL.ns ?_
            refine W.seq ?_
            refine W.sr ?_
            refine WL.mv rfl rfl ?_
            refine WL.op rfl (Op1.neI (.tmp rfl) (.int (inR64.2 (by omega)))) ?_
            refine WL.ns ?_
            refine W.cond (.tmp rfl) (fun hc19 => ?_) (fun hc19 => ?_)
            · have hp20 := of_decide_eq_true hc19
              rw [if_pos hp20] at hm
              refine W.sr ?_
              refine WL.op rfl (Op1.build (s := tapi_Id) (x := (⟨(0 : Int), (0 : Int), (0 : Int)⟩ : api_Id)) zapi_Id_f rfl Try.underlying23 (zapi_Id_sz _ Try.underlying23) ze23 rfl) ?_
              refine WL.mv rfl rfl ?_
              refine WL.opU (OpR.storeB (b := b) 4 Try.sizeOf23 (Cellable.is tapi_Id (⟨(0 : Int), (0 : Int), (0 : Int)⟩ : api_Id)) rfl (.tmp rfl) (.tmp rfl)) (fun _ => ?_)
              refine WL.op rfl (Op1.assign (.int (inR64.2 (by omega)))) ?_
              refine WL.gv rfl rfl ?_
              refine WL.ns ?_
              cases hm
              exact W.retQ3 () rfl rfl (ResAt.cell 4 Try.isAgg23 Try.sizeOf23 rfl (.tmp rfl)) (ResAt.tmp (.tmp rfl)) (ResAt.tmp (.tmp rfl)) trivial
            · have hp20 := of_decide_eq_false hc19
              rw [if_neg hp20] at hm
              refine W.skip ?_
              refine WN.seq ?_
              refine W.seq ?_
              refine W.weakR (res' := [(4, (Bx 3 true 23 (tapi_Id.is zapi_Id) b))]) ⟨rfl, rfl, trivial⟩ ?_
              refine W.drawM [.c (tapi_Id.ptr goes.1.parent_), .c (tapi_Id.is goes.1.parent_), .c ((tI .i64).ptr goes.1.at_), .c ((tI .i64).is goes.1.at_), .c Asn.any, .c ((tI .i64).is goes.1.at_), .c ((tI .i64).is (0 : Int))] [([], [10]), ([0], []), ([], [10]), ([2], []), ([1], [4]), ([3], []), ([], [])] [4] [[], [], [], [], [], [], []] (fun m cv => match m with | 0 => [(4, (Bx 3 true 23 (tapi_Id.is zapi_Id) b))] | _ => [(4, (Bx 3 true 23 (tapi_Id.is goes.1.parent_) b))]) (fun _ => none) Try.mixed rfl rfl rfl rfl rfl ⟨fun _ _ _ _ => rfl, ⟨fun _ _ _ _ => rfl, ⟨fun _ _ _ _ => rfl, ⟨fun _ _ _ _ => rfl, ⟨fun _ _ _ _ => rfl, ⟨fun _ _ _ _ => rfl, ⟨fun _ _ _ _ => rfl, trivial⟩⟩⟩⟩⟩⟩⟩ rfl ⟨.inr ⟨fun cv => [], (fun _ _ _ _ => trivial), fun cv => Op1.fieldAddr Try.underlying66 rfl (fun w => ⟨2, Try.sizeOf23 w⟩) ftarget_spot_0 (.tmp rfl)⟩, ⟨.inr ⟨fun cv => [], (fun _ _ _ _ => trivial), fun cv => Op1.load ty23 (.tmp rfl)⟩, ⟨.inr ⟨fun cv => [], (fun _ _ _ _ => trivial), fun cv => Op1.fieldAddr Try.underlying66 rfl (fun w => ⟨0, Try.sizeOf3 w⟩) ftarget_spot_1 (.tmp rfl)⟩, ⟨.inr ⟨fun cv => [], (fun _ _ _ _ => trivial), fun cv => Op1.load ty3 (.tmp rfl)⟩, ⟨.inl rfl, ⟨.inr ⟨fun cv => [], (fun _ _ _ _ => trivial), fun cv => Op1.assign (.tmp rfl)⟩, ⟨.inr ⟨fun cv => [], (fun _ _ _ _ => trivial), fun cv => Op1.assign (.int (inR64.2 (by omega)))⟩, trivial⟩⟩⟩⟩⟩⟩⟩ ⟨⟨_, _, _, [4], (fun cv => [(4, (Bx 3 true 23 (tapi_Id.is goes.1.parent_) b))]), rfl, rfl, rfl, rfl, fun _ => rfl, fun _ _ => rfl, fun cv => OpR.viaU (OpR.storeB (b := b) 4 Try.sizeOf23 (Cellable.is tapi_Id goes.1.parent_) rfl (.tmp rfl) (.tmp rfl))⟩, trivial⟩ (fun cv => ?_)
              refine WN.seq ?_
              cases hm
              exact W.retQ3 () rfl rfl (ResAt.cell 4 Try.isAgg23 Try.sizeOf23 rfl (.tmp rfl)) (ResAt.tmp (.tmp rfl)) (ResAt.tmp (.tmp rfl)) trivial
    · have hm := hs5
      clear hs5
      refine W.region ?_
      refine WL.op rfl (Op1.fieldAddr Try.underlying37 rfl (fun w => ⟨0, Try.sizeOf3 w⟩) fapi_Item_0 (.tmp rfl)) ?_
      refine WL.op rfl (Op1.load ty3 (.tmp rfl)) ?_
      refine WL.op rfl (Op1.neI (.tmp rfl) (.int (inR64.2 (by omega)))) ?_
      refine WL.mv rfl rfl ?_
      rcases bcases (decide (it.Kind ≠ (6 : Int))) with hb7 | hb7
      · have hp8 := of_decide_eq_true hb7
        rw [if_pos hp8] at hm
        refine WL.pass rfl rfl rfl rfl hb7 rfl rfl ?_
        refine WL.pass rfl rfl rfl rfl hb7 rfl rfl ?_
        refine WL.pass rfl rfl rfl rfl hb7 rfl rfl ?_
        refine WL.pass rfl rfl rfl rfl hb7 rfl rfl ?_
        refine WL.op rfl (Op1.pickT (.tmp rfl) hb7 .bool) ?_
        refine WL.nil ?_
        exact WN.meet true (Option.some.inj hm) ⟨Ent.q rfl, Ent.q rfl, Ent.q rfl, Ent.q rfl, trivial⟩ ⟨rfl, rfl, trivial⟩
      · have hp8 := of_decide_eq_false hb7
        rw [if_neg hp8] at hm
        refine WL.run rfl rfl rfl rfl hb7 rfl rfl (Op1.fieldAddr Try.underlying37 rfl (fun w => ⟨0, Try.sizeOf3 w⟩) fapi_Item_3 (.tmp rfl)) ?_
        refine WL.run rfl rfl rfl rfl hb7 rfl rfl (Op1.load ty3 (.tmp rfl)) ?_
        obtain ⟨iswher, hv9, hm⟩ := bind_some hm
        refine WL.run rfl rfl rfl rfl hb7 rfl rfl (Op1.call Try.call31 (target_isWhere_spec _ _ hv9) ⟨(.tmp rfl), trivial⟩) ?_
        refine WL.run rfl rfl rfl rfl hb7 rfl rfl (Op1.notB (.tmp rfl)) ?_
        refine WL.op rfl (Op1.pickF (.tmp rfl) hb7 (.tmp rfl)) ?_
        refine WL.nil ?_
        exact WN.meet (!iswher) (Option.some.inj hm) ⟨Ent.q rfl, Ent.q rfl, Ent.q rfl, Ent.q rfl, trivial⟩ ⟨rfl, rfl, trivial⟩

end Go.Proofs.Ytfclekegoleiaaa
