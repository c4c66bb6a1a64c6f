/-
  The code does what the models say: written by program.
-/
import Derived.Test.YtfclekegoleiaaaWd
set_option linter.unusedVariables false
set_option linter.unusedSimpArgs false
namespace Go.Proofs.Ytfclekegoleiaaa
open Go Go.Dec

set_option maxRecDepth 100000
set_option maxHeartbeats 4000000
theorem r21_Goes_spec (n : Nat) (u : api_Unit) (it : api_Item) (r : api_Id × Int × Int) (hm : M.r21_Goes n u it = some r) : FSpec Try.prog 28 [(tapi_Unit.is u), (tapi_Item.is it)] (Asn.tuple3 (tapi_Id.is r.1) ((tI .i64).is r.2.1) ((tI .i64).is r.2.2)) := by
  unfold M.r21_Goes at hm
  refine FSpec.of Try.func28 rfl rfl rfl (fun g0 => ?_)
  refine W.sr ?_
  refine WL.op rfl (Op1.box (.tmp rfl)) ?_
  refine WL.op rfl (Op1.box (.tmp rfl)) ?_
  refine WL.opR rfl (OpR.alloc 4 ze23) (fun b => ?_)
  refine WL.op rfl (Op1.assign (.int (inR64.2 (by omega)))) ?_
  refine WL.op rfl (Op1.assign (.int (inR64.2 (by omega)))) ?_
  refine WL.ns ?_
  refine W.seq ?_
  obtain ⟨s1, hs2, hk3⟩ := bind_some hm
  clear hm
  refine W.join (fun s : Bool => s = s1) (fun s => [(39, (tB.is s)), (2, (tapi_Unit.ptr u)), (3, (tapi_Item.ptr it)), (4, (Bp b 0))]) (fun s => [(4, (Bx 3 true 23 (tapi_Id.is zapi_Id) b))]) ?_ ?_
  · rintro v hj62
    try dsimp only at hj62
    subst hj62
    have hm := hk3
    clear hk3
    try dsimp only at hm
    change W _ _ _ _ _ _ _ [(39, (tB.is v)), (2, (tapi_Unit.ptr u)), (3, (tapi_Item.ptr it)), (4, (Bp b 0))] [(4, (Bx 3 true 23 (tapi_Id.is zapi_Id) b))]
    refine W.cond (.tmp rfl) (fun hc12 => ?_) (fun hc12 => ?_)
    · have hp13 := hc12
      rw [if_pos hp13] at hm
      refine W.sr ?_
      refine WL.op rfl (Op1.build (s := tapi_Id) (x := (⟨(0 : Int), (0 : Int), (0 : Int)⟩ : api_Id)) zapi_Id_f rfl Try.underlying23 (zapi_Id_sz _ Try.underlying23) ze23 rfl) ?_
      refine WL.opU (OpR.storeB (b := b) 4 Try.sizeOf23 (Cellable.is tapi_Id (⟨(0 : Int), (0 : Int), (0 : Int)⟩ : api_Id)) rfl (.tmp rfl) (.tmp rfl)) (fun _ => ?_)
      refine WL.op rfl (Op1.assign (.int (inR64.2 (by omega)))) ?_
      refine WL.op rfl (Op1.assign (.int (inR64.2 (by omega)))) ?_
      refine WL.ns ?_
      cases hm
      exact W.retQ3 () rfl rfl (ResAt.cell 4 Try.isAgg23 Try.sizeOf23 rfl (.tmp rfl)) (ResAt.tmp (.tmp rfl)) (ResAt.tmp (.tmp rfl)) trivial
    · have hp13 := ne_of_false hc12
      rw [if_neg hp13] at hm
      refine W.skip ?_
      refine WN.seq ?_
      refine W.seq ?_
      refine W.sr ?_
      refine WL.op rfl (Op1.fieldAddr Try.underlying37 rfl (fun w => ⟨0, Try.sizeOf3 w⟩) fapi_Item_0 (.tmp rfl)) ?_
      refine WL.op rfl (Op1.load ty3 (.tmp rfl)) ?_
      refine WL.op rfl (Op1.eqI (.tmp rfl) (.int (inR64.2 (by omega)))) ?_
      refine WL.ns ?_
      refine W.cond (.tmp rfl) (fun hc14 => ?_) (fun hc14 => ?_)
      · have hp15 := of_decide_eq_true hc14
        rw [if_pos hp15] at hm
        refine W.sr ?_
        refine WL.op rfl (Op1.load ty27 (.tmp rfl)) ?_
        refine WL.op rfl (Op1.fieldAddr Try.underlying37 rfl (fun w => ⟨0, Try.sizeOf28 w⟩) fapi_Item_1 (.tmp rfl)) ?_
        refine WL.op rfl (Op1.load ty28 (.tmp rfl)) ?_
        refine WL.op rfl (Op1.fieldAddr Try.underlying37 rfl (fun w => ⟨0, Try.sizeOf3 w⟩) fapi_Item_3 (.tmp rfl)) ?_
        refine WL.op rfl (Op1.load ty3 (.tmp rfl)) ?_
        obtain ⟨where0_, hv16, hm⟩ := bind_some hm
        refine WL.op rfl (Op1.call Try.call12 (r21_Where_spec _ _ _ _ _ hv16) ⟨(.tmp rfl), (.tmp rfl), (.tmp rfl), trivial⟩) ?_
        refine WL.op rfl (Op1.extract30 (.tmp rfl)) ?_
        refine WL.op rfl (Op1.extract31 (.tmp rfl)) ?_
        refine WL.op rfl (Op1.extract32 (.tmp rfl)) ?_
        refine WL.opU (OpR.storeB (b := b) 4 Try.sizeOf23 (Cellable.is tapi_Id where0_.1) rfl (.tmp rfl) (.tmp rfl)) (fun _ => ?_)
        refine WL.gv rfl rfl ?_
        refine WL.gv rfl rfl ?_
        refine WL.ns ?_
        cases hm
        exact W.retQ3 () rfl rfl (ResAt.cell 4 Try.isAgg23 Try.sizeOf23 rfl (.tmp rfl)) (ResAt.tmp (.tmp rfl)) (ResAt.tmp (.tmp rfl)) trivial
      · have hp15 := of_decide_eq_false hc14
        rw [if_neg hp15] at hm
        refine W.skip ?_
        refine WN.seq ?_
        refine W.sr ?_
        refine WL.op rfl (Op1.load ty27 (.tmp rfl)) ?_
        refine WL.op rfl (Op1.fieldAddr Try.underlying37 rfl (fun w => ⟨0, Try.sizeOf28 w⟩) fapi_Item_1 (.tmp rfl)) ?_
        refine WL.op rfl (Op1.load ty28 (.tmp rfl)) ?_
        obtain ⟨one, hv17, hm⟩ := bind_some hm
        refine WL.op rfl (Op1.call Try.call18 (r07_One_spec _ _ _ _ hv17) ⟨(.tmp rfl), (.tmp rfl), trivial⟩) ?_
        refine WL.mv rfl rfl ?_
        refine WL.op rfl (Op1.extract0 (.tmp rfl)) ?_
        refine WL.op rfl (Op1.extract1 (.tmp rfl)) ?_
        refine WL.opR rfl (OpR.alloc 7 ze23) (fun b1 => ?_)
        refine WL.opU (OpR.storeB (b := b1) 7 Try.sizeOf23 (Cellable.is tapi_Id one.1) rfl (.tmp rfl) (.tmp rfl)) (fun _ => ?_)
        refine WL.sealed (t := tapi_Id) (u := one.1) 7 7 rfl rfl ?_
        refine WL.gv rfl rfl ?_
        refine WL.ns ?_
        refine W.seq ?_
        refine W.sr ?_
        refine WL.mv rfl rfl ?_
        refine WL.op rfl (Op1.neI (.tmp rfl) (.int (inR64.2 (by omega)))) ?_
        refine WL.ns ?_
        refine W.cond (.tmp rfl) (fun hc18 => ?_) (fun hc18 => ?_)
        · have hp19 := of_decide_eq_true hc18
          rw [if_pos hp19] at hm
          refine W.sr ?_
          refine WL.op rfl (Op1.build (s := tapi_Id) (x := (⟨(0 : Int), (0 : Int), (0 : Int)⟩ : api_Id)) zapi_Id_f rfl Try.underlying23 (zapi_Id_sz _ Try.underlying23) ze23 rfl) ?_
          refine WL.mv rfl rfl ?_
          refine WL.opU (OpR.storeB (b := b) 4 Try.sizeOf23 (Cellable.is tapi_Id (⟨(0 : Int), (0 : Int), (0 : Int)⟩ : api_Id)) rfl (.tmp rfl) (.tmp rfl)) (fun _ => ?_)
          refine WL.op rfl (Op1.assign (.int (inR64.2 (by omega)))) ?_
          refine WL.gv rfl rfl ?_
          refine WL.ns ?_
          cases hm
          exact W.retQ3 () rfl rfl (ResAt.cell 4 Try.isAgg23 Try.sizeOf23 rfl (.tmp rfl)) (ResAt.tmp (.tmp rfl)) (ResAt.tmp (.tmp rfl)) trivial
        · have hp19 := of_decide_eq_false hc18
          rw [if_neg hp19] at hm
          refine W.skip ?_
          refine WN.seq ?_
          refine W.sr ?_
          refine WL.op rfl (Op1.load ty27 (.tmp rfl)) ?_
          refine WL.op rfl (Op1.fieldAddr Try.underlying37 rfl (fun w => ⟨0, Try.sizeOf28 w⟩) fapi_Item_2 (.tmp rfl)) ?_
          refine WL.op rfl (Op1.load ty28 (.tmp rfl)) ?_
          obtain ⟨one1, hv20, hm⟩ := bind_some hm
          refine WL.op rfl (Op1.call Try.call18 (r07_One_spec _ _ _ _ hv20) ⟨(.tmp rfl), (.tmp rfl), trivial⟩) ?_
          refine WL.mv rfl rfl ?_
          refine WL.op rfl (Op1.extract0 (.tmp rfl)) ?_
          refine WL.op rfl (Op1.extract1 (.tmp rfl)) ?_
          refine WL.opR rfl (OpR.alloc 9 ze23) (fun b2 => ?_)
          refine WL.opU (OpR.storeB (b := b2) 9 Try.sizeOf23 (Cellable.is tapi_Id one1.1) rfl (.tmp rfl) (.tmp rfl)) (fun _ => ?_)
          refine WL.sealed (t := tapi_Id) (u := one1.1) 9 9 rfl rfl ?_
          refine WL.gv rfl rfl ?_
          refine WL.ns ?_
          refine W.seq ?_
          refine W.sr ?_
          refine WL.mv rfl rfl ?_
          refine WL.op rfl (Op1.neI (.tmp rfl) (.int (inR64.2 (by omega)))) ?_
          refine WL.ns ?_
          refine W.cond (.tmp rfl) (fun hc21 => ?_) (fun hc21 => ?_)
          · have hp22 := of_decide_eq_true hc21
            rw [if_pos hp22] at hm
            refine W.sr ?_
            refine WL.op rfl (Op1.build (s := tapi_Id) (x := (⟨(0 : Int), (0 : Int), (0 : Int)⟩ : api_Id)) zapi_Id_f rfl Try.underlying23 (zapi_Id_sz _ Try.underlying23) ze23 rfl) ?_
            refine WL.mv rfl rfl ?_
            refine WL.opU (OpR.storeB (b := b) 4 Try.sizeOf23 (Cellable.is tapi_Id (⟨(0 : Int), (0 : Int), (0 : Int)⟩ : api_Id)) rfl (.tmp rfl) (.tmp rfl)) (fun _ => ?_)
            refine WL.op rfl (Op1.assign (.int (inR64.2 (by omega)))) ?_
            refine WL.gv rfl rfl ?_
            refine WL.ns ?_
            cases hm
            exact W.retQ3 () rfl rfl (ResAt.cell 4 Try.isAgg23 Try.sizeOf23 rfl (.tmp rfl)) (ResAt.tmp (.tmp rfl)) (ResAt.tmp (.tmp rfl)) trivial
          · have hp22 := of_decide_eq_false hc21
            rw [if_neg hp22] at hm
            refine W.skip ?_
            refine WN.seq ?_
            refine W.sr ?_
            refine WL.op rfl (Op1.fieldAddr Try.underlying37 rfl (fun w => ⟨0, Try.sizeOf3 w⟩) fapi_Item_3 (.tmp rfl)) ?_
            refine WL.op rfl (Op1.load ty3 (.tmp rfl)) ?_
            refine WL.op rfl (Op1.geI (.tmp rfl) (.int (inR64.2 (by omega)))) ?_
            refine WL.gv rfl rfl ?_
            refine WL.nr ?_
            refine WL.op rfl (Op1.load ty27 (.tmp rfl)) ?_
            refine WL.op rfl (Op1.load ty23 (.tmp rfl)) ?_
            obtain ⟨find, hv23, hm⟩ := bind_some hm
            refine WL.op rfl (Op1.call Try.call15 (r06_Find_spec _ _ _ _ hv23) ⟨(.tmp rfl), (.tmp rfl), trivial⟩) ?_
            refine WL.mv rfl rfl ?_
            refine WL.op rfl (Op1.extract0 (.tmp rfl)) ?_
            refine WL.op rfl (Op1.extract1 (.tmp rfl)) ?_
            refine WL.opR rfl (OpR.alloc 12 ze27) (fun b3 => ?_)
            refine WL.opU (OpR.storeB (b := b3) 12 Try.sizeOf27 (Cellable.is tapi_Unit find.1) rfl (.tmp rfl) (.tmp rfl)) (fun _ => ?_)
            refine WL.sealed (t := tapi_Unit) (u := find.1) 12 12 rfl rfl ?_
            refine WL.gv rfl rfl ?_
            refine WL.nr ?_
            refine WL.op rfl (Op1.load ty27 (.tmp rfl)) ?_
            refine WL.op rfl (Op1.load ty23 (.tmp rfl)) ?_
            obtain ⟨find1, hv24, hm⟩ := bind_some hm
            refine WL.op rfl (Op1.call Try.call15 (r06_Find_spec _ _ _ _ hv24) ⟨(.tmp rfl), (.tmp rfl), trivial⟩) ?_
            refine WL.mv rfl rfl ?_
            refine WL.op rfl (Op1.extract0 (.tmp rfl)) ?_
            refine WL.op rfl (Op1.extract1 (.tmp rfl)) ?_
            refine WL.opR rfl (OpR.alloc 14 ze27) (fun b4 => ?_)
            refine WL.opU (OpR.storeB (b := b4) 14 Try.sizeOf27 (Cellable.is tapi_Unit find1.1) rfl (.tmp rfl) (.tmp rfl)) (fun _ => ?_)
            refine WL.sealed (t := tapi_Unit) (u := find1.1) 14 14 rfl rfl ?_
            refine WL.gv rfl rfl ?_
            refine WL.ns ?_
            refine W.seq ?_
            obtain ⟨s25, hs26, hk27⟩ := bind_some hm
            clear hm
            refine W.join (fun s : Bool => s = s25) (fun s => [(119, (tB.is s)), (2, (tapi_Unit.ptr u)), (3, (tapi_Item.ptr it)), (4, (Bp b 0)), (7, (tapi_Id.ptr one.1)), (9, (tapi_Id.ptr one1.1))]) (fun s => [(4, (Bx 3 true 23 (tapi_Id.is zapi_Id) b))]) ?_ ?_
            · rintro v1 hj61
              try dsimp only at hj61
              subst hj61
              have hm := hk27
              clear hk27
              try dsimp only at hm
              change W _ _ _ _ _ _ _ [(119, (tB.is v1)), (2, (tapi_Unit.ptr u)), (3, (tapi_Item.ptr it)), (4, (Bp b 0)), (7, (tapi_Id.ptr one.1)), (9, (tapi_Id.ptr one1.1))] [(4, (Bx 3 true 23 (tapi_Id.is zapi_Id) b))]
              refine W.cond (.tmp rfl) (fun hc50 => ?_) (fun hc50 => ?_)
              · have hp51 := hc50
                rw [if_pos hp51] at hm
                refine W.sr ?_
                refine WL.op rfl (Op1.build (s := tapi_Id) (x := (⟨(0 : Int), (0 : Int), (0 : Int)⟩ : api_Id)) zapi_Id_f rfl Try.underlying23 (zapi_Id_sz _ Try.underlying23) ze23 rfl) ?_
                refine WL.opU (OpR.storeB (b := b) 4 Try.sizeOf23 (Cellable.is tapi_Id (⟨(0 : Int), (0 : Int), (0 : Int)⟩ : api_Id)) rfl (.tmp rfl) (.tmp rfl)) (fun _ => ?_)
                refine WL.op rfl (Op1.assign (.int (inR64.2 (by omega)))) ?_
                refine WL.op rfl (Op1.assign (.int (inR64.2 (by omega)))) ?_
                refine WL.ns ?_
                cases hm
                exact W.retQ3 () rfl rfl (ResAt.cell 4 Try.isAgg23 Try.sizeOf23 rfl (.tmp rfl)) (ResAt.tmp (.tmp rfl)) (ResAt.tmp (.tmp rfl)) trivial
              · have hp51 := ne_of_false hc50
                rw [if_neg hp51] at hm
                refine W.skip ?_
                refine WN.seq ?_
                refine W.sr ?_
                refine WL.op rfl (Op1.load ty27 (.tmp rfl)) ?_
                refine WL.op rfl (Op1.load ty23 (.tmp rfl)) ?_
                obtain ⟨parent, hv52, hm⟩ := bind_some hm
                refine WL.op rfl (Op1.call Try.call16 (r06_Parent_spec _ _ _ _ hv52) ⟨(.tmp rfl), (.tmp rfl), trivial⟩) ?_
                refine WL.mv rfl rfl ?_
                refine WL.op rfl (Op1.extract30 (.tmp rfl)) ?_
                refine WL.op rfl (Op1.extract31 (.tmp rfl)) ?_
                refine WL.op rfl (Op1.extract32 (.tmp rfl)) ?_
                refine WL.opR rfl (OpR.alloc 16 ze23) (fun b5 => ?_)
                refine WL.opU (OpR.storeB (b := b5) 16 Try.sizeOf23 (Cellable.is tapi_Id parent.1) rfl (.tmp rfl) (.tmp rfl)) (fun _ => ?_)
                refine WL.sealed (t := tapi_Id) (u := parent.1) 16 16 rfl rfl ?_
                refine WL.gv rfl rfl ?_
                refine WL.gv rfl rfl ?_
                refine WL.ns ?_
                refine W.seq ?_
                refine W.sr ?_
                refine WL.op rfl (Op1.load ty23 (.tmp rfl)) ?_
                refine WL.op rfl (Op1.load ty23 (.tmp rfl)) ?_
                refine WL.op rfl (Op1.eqSt (D := 2) rfl (by decide) eg23 eq23 (.tmp rfl) (.tmp rfl)) ?_
                refine WL.ns ?_
                refine W.cond (.tmp rfl) (fun hc53 => ?_) (fun hc53 => ?_)
                · have hp54 := of_decide_eq_true hc53
                  rw [if_pos hp54] at hm
                  refine W.sr ?_
                  refine WL.op rfl (Op1.load ty23 (.tmp rfl)) ?_
                  refine WL.mv rfl rfl ?_
                  refine WL.opU (OpR.storeB (b := b) 4 Try.sizeOf23 (Cellable.is tapi_Id parent.1) rfl (.tmp rfl) (.tmp rfl)) (fun _ => ?_)
                  refine WL.gv rfl rfl ?_
                  refine WL.op rfl (Op1.assign (.int (inR64.2 (by omega)))) ?_
                  refine WL.ns ?_
                  cases hm
                  exact W.retQ3 () rfl rfl (ResAt.cell 4 Try.isAgg23 Try.sizeOf23 rfl (.tmp rfl)) (ResAt.tmp (.tmp rfl)) (ResAt.tmp (.tmp rfl)) trivial
                · have hp54 := of_decide_eq_false hc53
                  rw [if_neg hp54] at hm
                  refine W.skip ?_
                  refine WN.seq ?_
                  refine W.sr ?_
                  refine WL.op rfl (Op1.load ty27 (.tmp rfl)) ?_
                  refine WL.op rfl (Op1.fieldAddr Try.underlying37 rfl (fun w => ⟨0, Try.sizeOf28 w⟩) fapi_Item_2 (.tmp rfl)) ?_
                  refine WL.op rfl (Op1.load ty28 (.tmp rfl)) ?_
                  refine WL.op rfl (Op1.fieldAddr Try.underlying37 rfl (fun w => ⟨0, Try.sizeOf3 w⟩) fapi_Item_3 (.tmp rfl)) ?_
                  refine WL.op rfl (Op1.load ty3 (.tmp rfl)) ?_
                  obtain ⟨where0_1, hv55, hm⟩ := bind_some hm
                  refine WL.op rfl (Op1.call Try.call12 (r21_Where_spec _ _ _ _ _ hv55) ⟨(.tmp rfl), (.tmp rfl), (.tmp rfl), trivial⟩) ?_
                  refine WL.mv rfl rfl ?_
                  refine WL.op rfl (Op1.extract30 (.tmp rfl)) ?_
                  refine WL.op rfl (Op1.extract31 (.tmp rfl)) ?_
                  refine WL.op rfl (Op1.extract32 (.tmp rfl)) ?_
                  refine WL.opR rfl (OpR.alloc 19 ze23) (fun b6 => ?_)
                  refine WL.opU (OpR.storeB (b := b6) 19 Try.sizeOf23 (Cellable.is tapi_Id where0_1.1) rfl (.tmp rfl) (.tmp rfl)) (fun _ => ?_)
                  refine WL.sealed (t := tapi_Id) (u := where0_1.1) 19 19 rfl rfl ?_
                  refine WL.gv rfl rfl ?_
                  refine WL.gv rfl rfl ?_
                  refine WL.ns ?_
                  refine W.seq ?_
                  refine W.sr ?_
                  refine WL.op rfl (Op1.load ty23 (.tmp rfl)) ?_
                  refine WL.op rfl (Op1.load ty23 (.tmp rfl)) ?_
                  refine WL.op rfl (Op1.eqSt (D := 2) rfl (by decide) eg23 eq23 (.tmp rfl) (.tmp rfl)) ?_
                  refine WL.mv rfl rfl ?_
                  rcases bcases (decide (where0_1.1 = parent.1)) with hb56 | hb56
                  · have hp57 := of_decide_eq_true hb56
                    rw [if_pos hp57] at hm
                    refine WL.run rfl rfl rfl rfl hb56 rfl rfl (Op1.move (.tmp rfl)) ?_
                    refine WL.run rfl rfl rfl rfl hb56 rfl rfl (Op1.move (.tmp rfl)) ?_
                    refine WL.run rfl rfl rfl rfl hb56 rfl rfl (Op1.ltI (.tmp rfl) (.tmp rfl)) ?_
                    refine WL.op rfl (Op1.pickT (.tmp rfl) hb56 (.tmp rfl)) ?_
                    refine WL.ns ?_
                    refine W.cond (.tmp rfl) (fun hc58 => ?_) (fun hc58 => ?_)
                    · have hp59 := of_decide_eq_true hc58
                      rw [if_pos hp59] at hm
                      refine W.region ?_
                      refine WL.mv rfl rfl ?_
                      obtain ⟨v2, hv60, hm⟩ := bind_some hm
                      refine WL.op rfl (Op1.subC hv60 (.tmp rfl) (.int (inR64.2 (by omega)))) ?_
                      refine WL.gv rfl rfl ?_
                      refine WL.nr ?_
                      refine WL.op rfl (Op1.load ty23 (.tmp rfl)) ?_
                      refine WL.mv rfl rfl ?_
                      refine WL.opU (OpR.storeB (b := b) 4 Try.sizeOf23 (Cellable.is tapi_Id where0_1.1) rfl (.tmp rfl) (.tmp rfl)) (fun _ => ?_)
                      refine WL.gv rfl rfl ?_
                      refine WL.op rfl (Op1.assign (.int (inR64.2 (by omega)))) ?_
                      refine WL.ns ?_
                      cases hm
                      exact W.retQ3 () rfl rfl (ResAt.cell 4 Try.isAgg23 Try.sizeOf23 rfl (.tmp rfl)) (ResAt.tmp (.tmp rfl)) (ResAt.tmp (.tmp rfl)) trivial
                    · have hp59 := of_decide_eq_false hc58
                      rw [if_neg hp59] at hm
                      refine W.skip ?_
                      refine WN.seq ?_
                      refine W.sr ?_
                      refine WL.op rfl (Op1.load ty23 (.tmp rfl)) ?_
                      refine WL.mv rfl rfl ?_
                      refine WL.opU (OpR.storeB (b := b) 4 Try.sizeOf23 (Cellable.is tapi_Id where0_1.1) rfl (.tmp rfl) (.tmp rfl)) (fun _ => ?_)
                      refine WL.gv rfl rfl ?_
                      refine WL.op rfl (Op1.assign (.int (inR64.2 (by omega)))) ?_
                      refine WL.ns ?_
                      cases hm
                      exact W.retQ3 () rfl rfl (ResAt.cell 4 Try.isAgg23 Try.sizeOf23 rfl (.tmp rfl)) (ResAt.tmp (.tmp rfl)) (ResAt.tmp (.tmp rfl)) trivial
                  · have hp57 := of_decide_eq_false hb56
                    rw [if_neg hp57] at hm
                    refine WL.pass rfl rfl rfl rfl hb56 rfl rfl ?_
                    refine WL.pass rfl rfl rfl rfl hb56 rfl rfl ?_
                    refine WL.pass rfl rfl rfl rfl hb56 rfl rfl ?_
                    refine WL.op rfl (Op1.pickF (.tmp rfl) hb56 .bool) ?_
                    refine WL.ns ?_
                    refine W.condF (.tmp rfl) ?_
                    refine W.skip ?_
                    refine WN.seq ?_
                    refine W.sr ?_
                    refine WL.op rfl (Op1.load ty23 (.tmp rfl)) ?_
                    refine WL.mv rfl rfl ?_
                    refine WL.opU (OpR.storeB (b := b) 4 Try.sizeOf23 (Cellable.is tapi_Id where0_1.1) rfl (.tmp rfl) (.tmp rfl)) (fun _ => ?_)
                    refine WL.gv rfl rfl ?_
                    refine WL.op rfl (Op1.assign (.int (inR64.2 (by omega)))) ?_
                    refine WL.ns ?_
                    cases hm
                    exact W.retQ3 () rfl rfl (ResAt.cell 4 Try.isAgg23 Try.sizeOf23 rfl (.tmp rfl)) (ResAt.tmp (.tmp rfl)) (ResAt.tmp (.tmp rfl)) trivial
            · have hm := hs26
              clear hs26
              refine W.region ?_
              refine WL.op rfl (Op1.load ty23 (.tmp rfl)) ?_
              refine WL.op rfl (Op1.fieldAddr Try.underlying27 rfl (fun w => ⟨2, Try.sizeOf23 w⟩) fapi_Unit_0 (.tmp rfl)) ?_
              refine WL.op rfl (Op1.load ty23 (.tmp rfl)) ?_
              refine WL.op rfl (Op1.eqSt (D := 2) rfl (by decide) eg23 eq23 (.tmp rfl) (.tmp rfl)) ?_
              refine WL.mv rfl rfl ?_
              rcases bcases (decide (one.1 = u.Id)) with hb28 | hb28
              · have hp29 := of_decide_eq_true hb28
                rw [if_pos hp29] at hm
                refine WL.pass rfl rfl rfl rfl hb28 rfl rfl ?_
                refine WL.pass rfl rfl rfl rfl hb28 rfl rfl ?_
                refine WL.pass2 rfl rfl rfl rfl rfl rfl ?_
                refine WL.pass2 rfl rfl rfl rfl rfl rfl ?_
                refine WL.pass2 rfl rfl rfl rfl rfl rfl ?_
                refine WL.pass2 rfl rfl rfl rfl rfl rfl ?_
                refine WL.pass rfl rfl rfl rfl hb28 rfl rfl ?_
                refine WL.op rfl (Op1.pickT (.tmp rfl) hb28 .bool) ?_
                refine WL.mv rfl rfl ?_
                refine WL.pass rfl rfl rfl rfl rfl rfl rfl ?_
                refine WL.pass rfl rfl rfl rfl rfl rfl rfl ?_
                refine WL.pass2 rfl rfl rfl rfl rfl rfl ?_
                refine WL.pass2 rfl rfl rfl rfl rfl rfl ?_
                refine WL.pass2 rfl rfl rfl rfl rfl rfl ?_
                refine WL.pass rfl rfl rfl rfl rfl rfl rfl ?_
                refine WL.op rfl (Op1.pickT (.tmp rfl) rfl .bool) ?_
                refine WL.mv rfl rfl ?_
                refine WL.pass rfl rfl rfl rfl rfl rfl rfl ?_
                refine WL.pass rfl rfl rfl rfl rfl rfl rfl ?_
                refine WL.pass rfl rfl rfl rfl rfl rfl rfl ?_
                refine WL.pass rfl rfl rfl rfl rfl rfl rfl ?_
                refine WL.pass2 rfl rfl rfl rfl rfl rfl ?_
                refine WL.pass2 rfl rfl rfl rfl rfl rfl ?_
                refine WL.pass rfl rfl rfl rfl rfl rfl rfl ?_
                refine WL.op rfl (Op1.pickT (.tmp rfl) rfl .bool) ?_
                refine WL.nil ?_
                exact WN.meet true (Option.some.inj hm) ⟨Ent.q rfl, Ent.q rfl, Ent.q rfl, Ent.q rfl, Ent.q rfl, Ent.q rfl, trivial⟩ ⟨rfl, rfl, trivial⟩
              · have hp29 := of_decide_eq_false hb28
                rw [if_neg hp29] at hm
                refine WL.run rfl rfl rfl rfl hb28 rfl rfl (Op1.move (.tmp rfl)) ?_
                refine WL.run rfl rfl rfl rfl hb28 rfl rfl (Op1.move (.tmp rfl)) ?_
                rcases bcases (decide ((2 : Int) ≤ it.Where)) with hb30 | hb30
                · have hp31 := of_decide_eq_true hb30
                  rw [if_pos hp31] at hm
                  refine WL.run rfl rfl rfl rfl hb30 rfl rfl (Op1.load ty23 (.tmp rfl)) ?_
                  refine WL.run rfl rfl rfl rfl hb30 rfl rfl (Op1.fieldAddr Try.underlying27 rfl (fun w => ⟨2, Try.sizeOf23 w⟩) fapi_Unit_0 (.tmp rfl)) ?_
                  refine WL.run rfl rfl rfl rfl hb30 rfl rfl (Op1.load ty23 (.tmp rfl)) ?_
                  refine WL.run rfl rfl rfl rfl hb30 rfl rfl (Op1.eqSt (D := 2) rfl (by decide) eg23 eq23 (.tmp rfl) (.tmp rfl)) ?_
                  refine WL.run rfl rfl rfl rfl hb28 rfl rfl (Op1.pickT (.tmp rfl) hb30 (.tmp rfl)) ?_
                  refine WL.op rfl (Op1.pickF (.tmp rfl) hb28 (.tmp rfl)) ?_
                  refine WL.mv rfl rfl ?_
                  rcases bcases (decide (one1.1 = u.Id)) with hb32 | hb32
                  · have hp33 := of_decide_eq_true hb32
                    rw [if_pos hp33] at hm
                    refine WL.pass rfl rfl rfl rfl hb32 rfl rfl ?_
                    refine WL.pass rfl rfl rfl rfl hb32 rfl rfl ?_
                    refine WL.pass2 rfl rfl rfl rfl rfl rfl ?_
                    refine WL.pass2 rfl rfl rfl rfl rfl rfl ?_
                    refine WL.pass2 rfl rfl rfl rfl rfl rfl ?_
                    refine WL.pass rfl rfl rfl rfl hb32 rfl rfl ?_
                    refine WL.op rfl (Op1.pickT (.tmp rfl) hb32 .bool) ?_
                    refine WL.mv rfl rfl ?_
                    refine WL.pass rfl rfl rfl rfl rfl rfl rfl ?_
                    refine WL.pass rfl rfl rfl rfl rfl rfl rfl ?_
                    refine WL.pass rfl rfl rfl rfl rfl rfl rfl ?_
                    refine WL.pass rfl rfl rfl rfl rfl rfl rfl ?_
                    refine WL.pass2 rfl rfl rfl rfl rfl rfl ?_
                    refine WL.pass2 rfl rfl rfl rfl rfl rfl ?_
                    refine WL.pass rfl rfl rfl rfl rfl rfl rfl ?_
                    refine WL.op rfl (Op1.pickT (.tmp rfl) rfl .bool) ?_
                    refine WL.nil ?_
                    exact WN.meet true (Option.some.inj hm) ⟨Ent.q rfl, Ent.q rfl, Ent.q rfl, Ent.q rfl, Ent.q rfl, Ent.q rfl, trivial⟩ ⟨rfl, rfl, trivial⟩
                  · have hp33 := of_decide_eq_false hb32
                    rw [if_neg hp33] at hm
                    refine WL.run rfl rfl rfl rfl hb32 rfl rfl (Op1.move (.tmp rfl)) ?_
                    refine WL.run rfl rfl rfl rfl hb32 rfl rfl (Op1.move (.tmp rfl)) ?_
                    rcases bcases (find1.2) with hb34 | hb34
                    · have hp35 := hb34
                      rw [if_pos hp35] at hm
                      refine WL.run rfl rfl rfl rfl hb34 rfl rfl (Op1.load ty23 (.tmp rfl)) ?_
                      refine WL.run rfl rfl rfl rfl hb34 rfl rfl (Op1.load ty23 (.tmp rfl)) ?_
                      refine WL.run rfl rfl rfl rfl hb34 rfl rfl (Op1.neSt (D := 2) rfl (by decide) eg23 eq23 (.tmp rfl) (.tmp rfl)) ?_
                      refine WL.run rfl rfl rfl rfl hb32 rfl rfl (Op1.pickT (.tmp rfl) hb34 (.tmp rfl)) ?_
                      refine WL.op rfl (Op1.pickF (.tmp rfl) hb32 (.tmp rfl)) ?_
                      refine WL.mv rfl rfl ?_
                      rcases bcases (decide (one1.1 ≠ one.1)) with hb36 | hb36
                      · have hp37 := of_decide_eq_true hb36
                        rw [if_pos hp37] at hm
                        refine WL.pass rfl rfl rfl rfl hb36 rfl rfl ?_
                        refine WL.pass rfl rfl rfl rfl hb36 rfl rfl ?_
                        refine WL.pass rfl rfl rfl rfl hb36 rfl rfl ?_
                        refine WL.pass rfl rfl rfl rfl hb36 rfl rfl ?_
                        refine WL.pass2 rfl rfl rfl rfl rfl rfl ?_
                        refine WL.pass2 rfl rfl rfl rfl rfl rfl ?_
                        refine WL.pass rfl rfl rfl rfl hb36 rfl rfl ?_
                        refine WL.op rfl (Op1.pickT (.tmp rfl) hb36 .bool) ?_
                        refine WL.nil ?_
                        exact WN.meet true (Option.some.inj hm) ⟨Ent.q rfl, Ent.q rfl, Ent.q rfl, Ent.q rfl, Ent.q rfl, Ent.q rfl, trivial⟩ ⟨rfl, rfl, trivial⟩
                      · have hp37 := of_decide_eq_false hb36
                        rw [if_neg hp37] at hm
                        refine WL.run rfl rfl rfl rfl hb36 rfl rfl (Op1.load ty23 (.tmp rfl)) ?_
                        refine WL.run rfl rfl rfl rfl hb36 rfl rfl (Op1.load ty23 (.tmp rfl)) ?_
                        refine WL.run rfl rfl rfl rfl hb36 rfl rfl (Op1.eqSt (D := 2) rfl (by decide) eg23 eq23 (.tmp rfl) (.tmp rfl)) ?_
                        refine WL.run rfl rfl rfl rfl hb36 rfl rfl (Op1.move (.tmp rfl)) ?_
                        rcases bcases (decide (one1.1 = one.1)) with hb38 | hb38
                        · have hp39 := of_decide_eq_true hb38
                          rw [if_pos hp39] at hm
                          refine WL.run rfl rfl rfl rfl hb38 rfl rfl (Op1.move (.tmp rfl)) ?_
                          refine WL.run rfl rfl rfl rfl hb38 rfl rfl (Op1.notB (.tmp rfl)) ?_
                          refine WL.run rfl rfl rfl rfl hb36 rfl rfl (Op1.pickT (.tmp rfl) hb38 (.tmp rfl)) ?_
                          refine WL.op rfl (Op1.pickF (.tmp rfl) hb36 (.tmp rfl)) ?_
                          refine WL.nil ?_
                          exact WN.meet (!(decide ((2 : Int) ≤ it.Where))) (Option.some.inj hm) ⟨Ent.q rfl, Ent.q rfl, Ent.q rfl, Ent.q rfl, Ent.q rfl, Ent.q rfl, trivial⟩ ⟨rfl, rfl, trivial⟩
                        · have hp39 := of_decide_eq_false hb38
                          rw [if_neg hp39] at hm
                          refine WL.pass rfl rfl rfl rfl hb38 rfl rfl ?_
                          refine WL.pass rfl rfl rfl rfl hb38 rfl rfl ?_
                          refine WL.run rfl rfl rfl rfl hb36 rfl rfl (Op1.pickF (.tmp rfl) hb38 .bool) ?_
                          refine WL.op rfl (Op1.pickF (.tmp rfl) hb36 (.tmp rfl)) ?_
                          refine WL.nil ?_
                          exact WN.meet false (Option.some.inj hm) ⟨Ent.q rfl, Ent.q rfl, Ent.q rfl, Ent.q rfl, Ent.q rfl, Ent.q rfl, trivial⟩ ⟨rfl, rfl, trivial⟩
                    · have hp35 := ne_of_false hb34
                      rw [if_neg hp35] at hm
                      refine WL.pass rfl rfl rfl rfl hb34 rfl rfl ?_
                      refine WL.pass rfl rfl rfl rfl hb34 rfl rfl ?_
                      refine WL.pass rfl rfl rfl rfl hb34 rfl rfl ?_
                      refine WL.run rfl rfl rfl rfl hb32 rfl rfl (Op1.pickF (.tmp rfl) hb34 .bool) ?_
                      refine WL.op rfl (Op1.pickF (.tmp rfl) hb32 (.tmp rfl)) ?_
                      refine WL.mv rfl rfl ?_
                      refine WL.run rfl rfl rfl rfl rfl rfl rfl (Op1.load ty23 (.tmp rfl)) ?_
                      refine WL.run rfl rfl rfl rfl rfl rfl rfl (Op1.load ty23 (.tmp rfl)) ?_
                      refine WL.run rfl rfl rfl rfl rfl rfl rfl (Op1.eqSt (D := 2) rfl (by decide) eg23 eq23 (.tmp rfl) (.tmp rfl)) ?_
                      refine WL.run rfl rfl rfl rfl rfl rfl rfl (Op1.move (.tmp rfl)) ?_
                      rcases bcases (decide (one1.1 = one.1)) with hb40 | hb40
                      · have hp41 := of_decide_eq_true hb40
                        rw [if_pos hp41] at hm
                        refine WL.run rfl rfl rfl rfl hb40 rfl rfl (Op1.move (.tmp rfl)) ?_
                        refine WL.run rfl rfl rfl rfl hb40 rfl rfl (Op1.notB (.tmp rfl)) ?_
                        refine WL.run rfl rfl rfl rfl rfl rfl rfl (Op1.pickT (.tmp rfl) hb40 (.tmp rfl)) ?_
                        refine WL.op rfl (Op1.pickF (.tmp rfl) rfl (.tmp rfl)) ?_
                        refine WL.nil ?_
                        exact WN.meet (!(decide ((2 : Int) ≤ it.Where))) (Option.some.inj hm) ⟨Ent.q rfl, Ent.q rfl, Ent.q rfl, Ent.q rfl, Ent.q rfl, Ent.q rfl, trivial⟩ ⟨rfl, rfl, trivial⟩
                      · have hp41 := of_decide_eq_false hb40
                        rw [if_neg hp41] at hm
                        refine WL.pass rfl rfl rfl rfl hb40 rfl rfl ?_
                        refine WL.pass rfl rfl rfl rfl hb40 rfl rfl ?_
                        refine WL.run rfl rfl rfl rfl rfl rfl rfl (Op1.pickF (.tmp rfl) hb40 .bool) ?_
                        refine WL.op rfl (Op1.pickF (.tmp rfl) rfl (.tmp rfl)) ?_
                        refine WL.nil ?_
                        exact WN.meet false (Option.some.inj hm) ⟨Ent.q rfl, Ent.q rfl, Ent.q rfl, Ent.q rfl, Ent.q rfl, Ent.q rfl, trivial⟩ ⟨rfl, rfl, trivial⟩
                · have hp31 := of_decide_eq_false hb30
                  rw [if_neg hp31] at hm
                  refine WL.pass rfl rfl rfl rfl hb30 rfl rfl ?_
                  refine WL.pass rfl rfl rfl rfl hb30 rfl rfl ?_
                  refine WL.pass rfl rfl rfl rfl hb30 rfl rfl ?_
                  refine WL.pass rfl rfl rfl rfl hb30 rfl rfl ?_
                  refine WL.run rfl rfl rfl rfl hb28 rfl rfl (Op1.pickF (.tmp rfl) hb30 .bool) ?_
                  refine WL.op rfl (Op1.pickF (.tmp rfl) hb28 (.tmp rfl)) ?_
                  refine WL.mv rfl rfl ?_
                  refine WL.run rfl rfl rfl rfl rfl rfl rfl (Op1.move (.tmp rfl)) ?_
                  refine WL.run rfl rfl rfl rfl rfl rfl rfl (Op1.move (.tmp rfl)) ?_
                  rcases bcases (find1.2) with hb42 | hb42
                  · have hp43 := hb42
                    rw [if_pos hp43] at hm
                    refine WL.run rfl rfl rfl rfl hb42 rfl rfl (Op1.load ty23 (.tmp rfl)) ?_
                    refine WL.run rfl rfl rfl rfl hb42 rfl rfl (Op1.load ty23 (.tmp rfl)) ?_
                    refine WL.run rfl rfl rfl rfl hb42 rfl rfl (Op1.neSt (D := 2) rfl (by decide) eg23 eq23 (.tmp rfl) (.tmp rfl)) ?_
                    refine WL.run rfl rfl rfl rfl rfl rfl rfl (Op1.pickT (.tmp rfl) hb42 (.tmp rfl)) ?_
                    refine WL.op rfl (Op1.pickF (.tmp rfl) rfl (.tmp rfl)) ?_
                    refine WL.mv rfl rfl ?_
                    rcases bcases (decide (one1.1 ≠ one.1)) with hb44 | hb44
                    · have hp45 := of_decide_eq_true hb44
                      rw [if_pos hp45] at hm
                      refine WL.pass rfl rfl rfl rfl hb44 rfl rfl ?_
                      refine WL.pass rfl rfl rfl rfl hb44 rfl rfl ?_
                      refine WL.pass rfl rfl rfl rfl hb44 rfl rfl ?_
                      refine WL.pass rfl rfl rfl rfl hb44 rfl rfl ?_
                      refine WL.pass2 rfl rfl rfl rfl rfl rfl ?_
                      refine WL.pass2 rfl rfl rfl rfl rfl rfl ?_
                      refine WL.pass rfl rfl rfl rfl hb44 rfl rfl ?_
                      refine WL.op rfl (Op1.pickT (.tmp rfl) hb44 .bool) ?_
                      refine WL.nil ?_
                      exact WN.meet true (Option.some.inj hm) ⟨Ent.q rfl, Ent.q rfl, Ent.q rfl, Ent.q rfl, Ent.q rfl, Ent.q rfl, trivial⟩ ⟨rfl, rfl, trivial⟩
                    · have hp45 := of_decide_eq_false hb44
                      rw [if_neg hp45] at hm
                      refine WL.run rfl rfl rfl rfl hb44 rfl rfl (Op1.load ty23 (.tmp rfl)) ?_
                      refine WL.run rfl rfl rfl rfl hb44 rfl rfl (Op1.load ty23 (.tmp rfl)) ?_
                      refine WL.run rfl rfl rfl rfl hb44 rfl rfl (Op1.eqSt (D := 2) rfl (by decide) eg23 eq23 (.tmp rfl) (.tmp rfl)) ?_
                      refine WL.run rfl rfl rfl rfl hb44 rfl rfl (Op1.move (.tmp rfl)) ?_
                      rcases bcases (decide (one1.1 = one.1)) with hb46 | hb46
                      · have hp47 := of_decide_eq_true hb46
                        rw [if_pos hp47] at hm
                        refine WL.run rfl rfl rfl rfl hb46 rfl rfl (Op1.move (.tmp rfl)) ?_
                        refine WL.run rfl rfl rfl rfl hb46 rfl rfl (Op1.notB (.tmp rfl)) ?_
                        refine WL.run rfl rfl rfl rfl hb44 rfl rfl (Op1.pickT (.tmp rfl) hb46 (.tmp rfl)) ?_
                        refine WL.op rfl (Op1.pickF (.tmp rfl) hb44 (.tmp rfl)) ?_
                        refine WL.nil ?_
                        exact WN.meet (!(decide ((2 : Int) ≤ it.Where))) (Option.some.inj hm) ⟨Ent.q rfl, Ent.q rfl, Ent.q rfl, Ent.q rfl, Ent.q rfl, Ent.q rfl, trivial⟩ ⟨rfl, rfl, trivial⟩
                      · have hp47 := of_decide_eq_false hb46
                        rw [if_neg hp47] at hm
                        refine WL.pass rfl rfl rfl rfl hb46 rfl rfl ?_
                        refine WL.pass rfl rfl rfl rfl hb46 rfl rfl ?_
                        refine WL.run rfl rfl rfl rfl hb44 rfl rfl (Op1.pickF (.tmp rfl) hb46 .bool) ?_
                        refine WL.op rfl (Op1.pickF (.tmp rfl) hb44 (.tmp rfl)) ?_
                        refine WL.nil ?_
                        exact WN.meet false (Option.some.inj hm) ⟨Ent.q rfl, Ent.q rfl, Ent.q rfl, Ent.q rfl, Ent.q rfl, Ent.q rfl, trivial⟩ ⟨rfl, rfl, trivial⟩
                  · have hp43 := ne_of_false hb42
                    rw [if_neg hp43] at hm
                    refine WL.pass rfl rfl rfl rfl hb42 rfl rfl ?_
                    refine WL.pass rfl rfl rfl rfl hb42 rfl rfl ?_
                    refine WL.pass rfl rfl rfl rfl hb42 rfl rfl ?_
                    refine WL.run rfl rfl rfl rfl rfl rfl rfl (Op1.pickF (.tmp rfl) hb42 .bool) ?_
                    refine WL.op rfl (Op1.pickF (.tmp rfl) rfl (.tmp rfl)) ?_
                    refine WL.mv rfl rfl ?_
                    refine WL.run rfl rfl rfl rfl rfl rfl rfl (Op1.load ty23 (.tmp rfl)) ?_
                    refine WL.run rfl rfl rfl rfl rfl rfl rfl (Op1.load ty23 (.tmp rfl)) ?_
                    refine WL.run rfl rfl rfl rfl rfl rfl rfl (Op1.eqSt (D := 2) rfl (by decide) eg23 eq23 (.tmp rfl) (.tmp rfl)) ?_
                    refine WL.run rfl rfl rfl rfl rfl rfl rfl (Op1.move (.tmp rfl)) ?_
                    rcases bcases (decide (one1.1 = one.1)) with hb48 | hb48
                    · have hp49 := of_decide_eq_true hb48
                      rw [if_pos hp49] at hm
                      refine WL.run rfl rfl rfl rfl hb48 rfl rfl (Op1.move (.tmp rfl)) ?_
                      refine WL.run rfl rfl rfl rfl hb48 rfl rfl (Op1.notB (.tmp rfl)) ?_
                      refine WL.run rfl rfl rfl rfl rfl rfl rfl (Op1.pickT (.tmp rfl) hb48 (.tmp rfl)) ?_
                      refine WL.op rfl (Op1.pickF (.tmp rfl) rfl (.tmp rfl)) ?_
                      refine WL.nil ?_
                      exact WN.meet (!(decide ((2 : Int) ≤ it.Where))) (Option.some.inj hm) ⟨Ent.q rfl, Ent.q rfl, Ent.q rfl, Ent.q rfl, Ent.q rfl, Ent.q rfl, trivial⟩ ⟨rfl, rfl, trivial⟩
                    · have hp49 := of_decide_eq_false hb48
                      rw [if_neg hp49] at hm
                      refine WL.pass rfl rfl rfl rfl hb48 rfl rfl ?_
                      refine WL.pass rfl rfl rfl rfl hb48 rfl rfl ?_
                      refine WL.run rfl rfl rfl rfl rfl rfl rfl (Op1.pickF (.tmp rfl) hb48 .bool) ?_
                      refine WL.op rfl (Op1.pickF (.tmp rfl) rfl (.tmp rfl)) ?_
                      refine WL.nil ?_
                      exact WN.meet false (Option.some.inj hm) ⟨Ent.q rfl, Ent.q rfl, Ent.q rfl, Ent.q rfl, Ent.q rfl, Ent.q rfl, trivial⟩ ⟨rfl, rfl, trivial⟩
  · have hm := hs2
    clear hs2
    refine W.region ?_
    refine WL.op rfl (Op1.fieldAddr Try.underlying37 rfl (fun w => ⟨0, Try.sizeOf3 w⟩) fapi_Item_0 (.tmp rfl)) ?_
    refine WL.op rfl (Op1.load ty3 (.tmp rfl)) ?_
    refine WL.op rfl (Op1.neI (.tmp rfl) (.int (inR64.2 (by omega)))) ?_
    refine WL.mv rfl rfl ?_
    rcases bcases (decide (it.Kind ≠ (0 : Int))) with hb4 | hb4
    · have hp5 := of_decide_eq_true hb4
      rw [if_pos hp5] at hm
      refine WL.run rfl rfl rfl rfl hb4 rfl rfl (Op1.fieldAddr Try.underlying37 rfl (fun w => ⟨0, Try.sizeOf3 w⟩) fapi_Item_0 (.tmp rfl)) ?_
      refine WL.run rfl rfl rfl rfl hb4 rfl rfl (Op1.load ty3 (.tmp rfl)) ?_
      refine WL.run rfl rfl rfl rfl hb4 rfl rfl (Op1.neI (.tmp rfl) (.int (inR64.2 (by omega)))) ?_
      refine WL.op rfl (Op1.pickT (.tmp rfl) hb4 (.tmp rfl)) ?_
      refine WL.mv rfl rfl ?_
      rcases bcases (decide (it.Kind ≠ (6 : Int))) with hb6 | hb6
      · have hp7 := of_decide_eq_true hb6
        rw [if_pos hp7] at hm
        refine WL.pass rfl rfl rfl rfl hb6 rfl rfl ?_
        refine WL.pass rfl rfl rfl rfl hb6 rfl rfl ?_
        refine WL.pass rfl rfl rfl rfl hb6 rfl rfl ?_
        refine WL.op rfl (Op1.pickT (.tmp rfl) hb6 .bool) ?_
        refine WL.mv rfl rfl ?_
        refine WL.pass rfl rfl rfl rfl rfl rfl rfl ?_
        refine WL.pass rfl rfl rfl rfl rfl rfl rfl ?_
        refine WL.pass rfl rfl rfl rfl rfl rfl rfl ?_
        refine WL.op rfl (Op1.pickT (.tmp rfl) rfl .bool) ?_
        refine WL.nil ?_
        exact WN.meet true (Option.some.inj hm) ⟨Ent.q rfl, Ent.q rfl, Ent.q rfl, Ent.q rfl, trivial⟩ ⟨rfl, rfl, trivial⟩
      · have hp7 := of_decide_eq_false hb6
        rw [if_neg hp7] at hm
        refine WL.run rfl rfl rfl rfl hb6 rfl rfl (Op1.fieldAddr Try.underlying37 rfl (fun w => ⟨0, Try.sizeOf3 w⟩) fapi_Item_3 (.tmp rfl)) ?_
        refine WL.run rfl rfl rfl rfl hb6 rfl rfl (Op1.load ty3 (.tmp rfl)) ?_
        refine WL.run rfl rfl rfl rfl hb6 rfl rfl (Op1.ltI (.tmp rfl) (.int (inR64.2 (by omega)))) ?_
        refine WL.op rfl (Op1.pickF (.tmp rfl) hb6 (.tmp rfl)) ?_
        refine WL.mv rfl rfl ?_
        rcases bcases (decide (it.Where < (0 : Int))) with hb8 | hb8
        · have hp9 := of_decide_eq_true hb8
          rw [if_pos hp9] at hm
          refine WL.pass rfl rfl rfl rfl hb8 rfl rfl ?_
          refine WL.pass rfl rfl rfl rfl hb8 rfl rfl ?_
          refine WL.pass rfl rfl rfl rfl hb8 rfl rfl ?_
          refine WL.op rfl (Op1.pickT (.tmp rfl) hb8 .bool) ?_
          refine WL.nil ?_
          exact WN.meet true (Option.some.inj hm) ⟨Ent.q rfl, Ent.q rfl, Ent.q rfl, Ent.q rfl, trivial⟩ ⟨rfl, rfl, trivial⟩
        · have hp9 := of_decide_eq_false hb8
          rw [if_neg hp9] at hm
          refine WL.run rfl rfl rfl rfl hb8 rfl rfl (Op1.fieldAddr Try.underlying37 rfl (fun w => ⟨0, Try.sizeOf3 w⟩) fapi_Item_3 (.tmp rfl)) ?_
          refine WL.run rfl rfl rfl rfl hb8 rfl rfl (Op1.load ty3 (.tmp rfl)) ?_
          refine WL.run rfl rfl rfl rfl hb8 rfl rfl (Op1.gtI (.tmp rfl) (.int (inR64.2 (by omega)))) ?_
          refine WL.op rfl (Op1.pickF (.tmp rfl) hb8 (.tmp rfl)) ?_
          refine WL.nil ?_
          exact WN.meet (decide ((3 : Int) < it.Where)) (Option.some.inj hm) ⟨Ent.q rfl, Ent.q rfl, Ent.q rfl, Ent.q rfl, trivial⟩ ⟨rfl, rfl, trivial⟩
    · have hp5 := of_decide_eq_false hb4
      rw [if_neg hp5] at hm
      refine WL.pass rfl rfl rfl rfl hb4 rfl rfl ?_
      refine WL.pass rfl rfl rfl rfl hb4 rfl rfl ?_
      refine WL.pass rfl rfl rfl rfl hb4 rfl rfl ?_
      refine WL.op rfl (Op1.pickF (.tmp rfl) hb4 .bool) ?_
      refine WL.mv rfl rfl ?_
      refine WL.run rfl rfl rfl rfl rfl rfl rfl (Op1.fieldAddr Try.underlying37 rfl (fun w => ⟨0, Try.sizeOf3 w⟩) fapi_Item_3 (.tmp rfl)) ?_
      refine WL.run rfl rfl rfl rfl rfl rfl rfl (Op1.load ty3 (.tmp rfl)) ?_
      refine WL.run rfl rfl rfl rfl rfl rfl rfl (Op1.ltI (.tmp rfl) (.int (inR64.2 (by omega)))) ?_
      refine WL.op rfl (Op1.pickF (.tmp rfl) rfl (.tmp rfl)) ?_
      refine WL.mv rfl rfl ?_
      rcases bcases (decide (it.Where < (0 : Int))) with hb10 | hb10
      · have hp11 := of_decide_eq_true hb10
        rw [if_pos hp11] at hm
        refine WL.pass rfl rfl rfl rfl hb10 rfl rfl ?_
        refine WL.pass rfl rfl rfl rfl hb10 rfl rfl ?_
        refine WL.pass rfl rfl rfl rfl hb10 rfl rfl ?_
        refine WL.op rfl (Op1.pickT (.tmp rfl) hb10 .bool) ?_
        refine WL.nil ?_
        exact WN.meet true (Option.some.inj hm) ⟨Ent.q rfl, Ent.q rfl, Ent.q rfl, Ent.q rfl, trivial⟩ ⟨rfl, rfl, trivial⟩
      · have hp11 := of_decide_eq_false hb10
        rw [if_neg hp11] at hm
        refine WL.run rfl rfl rfl rfl hb10 rfl rfl (Op1.fieldAddr Try.underlying37 rfl (fun w => ⟨0, Try.sizeOf3 w⟩) fapi_Item_3 (.tmp rfl)) ?_
        refine WL.run rfl rfl rfl rfl hb10 rfl rfl (Op1.load ty3 (.tmp rfl)) ?_
        refine WL.run rfl rfl rfl rfl hb10 rfl rfl (Op1.gtI (.tmp rfl) (.int (inR64.2 (by omega)))) ?_
        refine WL.op rfl (Op1.pickF (.tmp rfl) hb10 (.tmp rfl)) ?_
        refine WL.nil ?_
        exact WN.meet (decide ((3 : Int) < it.Where)) (Option.some.inj hm) ⟨Ent.q rfl, Ent.q rfl, Ent.q rfl, Ent.q rfl, trivial⟩ ⟨rfl, rfl, trivial⟩

theorem law21_TargetDestination_spec (n : Nat) (u : api_Unit) (it : api_Item) (r : Bool) (hm : M.law21_TargetDestination n u it = some r) : FSpec Try.prog 7 [(tapi_Unit.is u), (tapi_Item.is it)] (tB.is r) := by
  unfold M.law21_TargetDestination at hm
  refine FSpec.of Try.func7 rfl rfl rfl (fun g0 => ?_)
  refine W.sr ?_
  refine WL.op rfl (Op1.box (.tmp rfl)) ?_
  refine WL.op rfl (Op1.box (.tmp rfl)) ?_
  refine WL.op rfl (Op1.assign .bool) ?_
  refine WL.ns ?_
  refine W.seq ?_
  refine W.sr ?_
  obtain ⟨awake, hv1, hm⟩ := bind_some hm
  refine WL.op rfl (Op1.call Try.call8 (law21_awake_spec _ _ hv1) trivial) ?_
  refine WL.op rfl (Op1.notB (.tmp rfl)) ?_
  refine WL.ns ?_
  refine W.cond (.tmp rfl) (fun hc2 => ?_) (fun hc2 => ?_)
  · have hp3 := not_pos hc2
    rw [if_pos hp3] at hm
    refine W.sr ?_
    refine WL.op rfl (Op1.assign .bool) ?_
    refine WL.ns ?_
    cases hm
    exact W.ret1 () rfl (.tmp rfl) trivial
  · have hp3 := not_neg hc2
    rw [if_neg hp3] at hm
    refine W.skip ?_
    refine WN.seq ?_
    refine W.seq ?_
    obtain ⟨s4, hs5, hk6⟩ := bind_some hm
    clear hm
    refine W.join (fun s : Bool => s = s4) (fun s => [(20, (tB.is s)), (2, (tapi_Unit.ptr u)), (3, (tapi_Item.ptr it))]) (fun s => []) ?_ ?_
    · rintro v hj19
      try dsimp only at hj19
      subst hj19
      have hm := hk6
      clear hk6
      try dsimp only at hm
      change W _ _ _ _ _ _ _ [(20, (tB.is v)), (2, (tapi_Unit.ptr u)), (3, (tapi_Item.ptr it))] []
      refine W.cond (.tmp rfl) (fun hc11 => ?_) (fun hc11 => ?_)
      · have hp12 := hc11
        rw [if_pos hp12] at hm
        refine W.sr ?_
        refine WL.op rfl (Op1.assign .bool) ?_
        refine WL.ns ?_
        cases hm
        exact W.ret1 () rfl (.tmp rfl) trivial
      · have hp12 := ne_of_false hc11
        rw [if_neg hp12] at hm
        refine W.skip ?_
        refine WN.seq ?_
        refine W.sr ?_
        refine WL.op rfl (Op1.load ty27 (.tmp rfl)) ?_
        refine WL.op rfl (Op1.load ty37 (.tmp rfl)) ?_
        obtain ⟨destin, hv13, hm⟩ := bind_some hm
        refine WL.op rfl (Op1.call Try.call27 (target_Destination_spec _ _ _ _ hv13) ⟨(.tmp rfl), (.tmp rfl), trivial⟩) ?_
        refine WL.mv rfl rfl ?_
        refine WL.op rfl (Op1.extract30 (.tmp rfl)) ?_
        refine WL.op rfl (Op1.extract31 (.tmp rfl)) ?_
        refine WL.op rfl (Op1.extract32 (.tmp rfl)) ?_
        refine WL.opR rfl (OpR.alloc 5 ze23) (fun b => ?_)
        refine WL.opU (OpR.storeB (b := b) 5 Try.sizeOf23 (Cellable.is tapi_Id destin.1) rfl (.tmp rfl) (.tmp rfl)) (fun _ => ?_)
        refine WL.sealed (t := tapi_Id) (u := destin.1) 5 5 rfl rfl ?_
        refine WL.gv rfl rfl ?_
        refine WL.gv rfl rfl ?_
        refine WL.nr ?_
        refine WL.op rfl (Op1.load ty27 (.tmp rfl)) ?_
        refine WL.op rfl (Op1.load ty37 (.tmp rfl)) ?_
        obtain ⟨goes, hv14, hm⟩ := bind_some hm
        refine WL.op rfl (Op1.call Try.call28 (r21_Goes_spec _ _ _ _ hv14) ⟨(.tmp rfl), (.tmp rfl), trivial⟩) ?_
        refine WL.mv rfl rfl ?_
        refine WL.op rfl (Op1.extract30 (.tmp rfl)) ?_
        refine WL.op rfl (Op1.extract31 (.tmp rfl)) ?_
        refine WL.op rfl (Op1.extract32 (.tmp rfl)) ?_
        refine WL.opR rfl (OpR.alloc 8 ze23) (fun b1 => ?_)
        refine WL.opU (OpR.storeB (b := b1) 8 Try.sizeOf23 (Cellable.is tapi_Id goes.1) rfl (.tmp rfl) (.tmp rfl)) (fun _ => ?_)
        refine WL.sealed (t := tapi_Id) (u := goes.1) 8 8 rfl rfl ?_
        refine WL.gv rfl rfl ?_
        refine WL.gv rfl rfl ?_
        refine WL.nr ?_
        refine WL.op rfl (Op1.load ty23 (.tmp rfl)) ?_
        refine WL.op rfl (Op1.load ty23 (.tmp rfl)) ?_
        refine WL.op rfl (Op1.eqSt (D := 2) rfl (by decide) eg23 eq23 (.tmp rfl) (.tmp rfl)) ?_
        refine WL.mv rfl rfl ?_
        rcases bcases (decide (destin.1 = goes.1)) with hb15 | hb15
        · have hp16 := of_decide_eq_true hb15
          rw [if_pos hp16] at hm
          refine WL.run rfl rfl rfl rfl hb15 rfl rfl (Op1.move (.tmp rfl)) ?_
          refine WL.run rfl rfl rfl rfl hb15 rfl rfl (Op1.move (.tmp rfl)) ?_
          refine WL.run rfl rfl rfl rfl hb15 rfl rfl (Op1.eqI (.tmp rfl) (.tmp rfl)) ?_
          refine WL.op rfl (Op1.pickT (.tmp rfl) hb15 (.tmp rfl)) ?_
          refine WL.mv rfl rfl ?_
          rcases bcases (decide (destin.2.1 = goes.2.1)) with hb17 | hb17
          · have hp18 := of_decide_eq_true hb17
            rw [if_pos hp18] at hm
            refine WL.run rfl rfl rfl rfl hb17 rfl rfl (Op1.move (.tmp rfl)) ?_
            refine WL.run rfl rfl rfl rfl hb17 rfl rfl (Op1.move (.tmp rfl)) ?_
            refine WL.run rfl rfl rfl rfl hb17 rfl rfl (Op1.eqI (.tmp rfl) (.tmp rfl)) ?_
            refine WL.op rfl (Op1.pickT (.tmp rfl) hb17 (.tmp rfl)) ?_
            refine WL.gv rfl rfl ?_
            refine WL.ns ?_
            cases hm
            exact W.ret1 () rfl (.tmp rfl) trivial
          · have hp18 := of_decide_eq_false hb17
            rw [if_neg hp18] at hm
            refine WL.pass rfl rfl rfl rfl hb17 rfl rfl ?_
            refine WL.pass rfl rfl rfl rfl hb17 rfl rfl ?_
            refine WL.pass rfl rfl rfl rfl hb17 rfl rfl ?_
            refine WL.op rfl (Op1.pickF (.tmp rfl) hb17 .bool) ?_
            refine WL.gv rfl rfl ?_
            refine WL.ns ?_
            cases hm
            exact W.ret1 () rfl (.tmp rfl) trivial
        · have hp16 := of_decide_eq_false hb15
          rw [if_neg hp16] at hm
          refine WL.pass rfl rfl rfl rfl hb15 rfl rfl ?_
          refine WL.pass rfl rfl rfl rfl hb15 rfl rfl ?_
          refine WL.pass rfl rfl rfl rfl hb15 rfl rfl ?_
          refine WL.op rfl (Op1.pickF (.tmp rfl) hb15 .bool) ?_
          refine WL.mv rfl rfl ?_
          refine WL.pass rfl rfl rfl rfl rfl rfl rfl ?_
          refine WL.pass rfl rfl rfl rfl rfl rfl rfl ?_
          refine WL.pass rfl rfl rfl rfl rfl rfl rfl ?_
          refine WL.op rfl (Op1.pickF (.tmp rfl) rfl .bool) ?_
          refine WL.gv rfl rfl ?_
          refine WL.ns ?_
          cases hm
          exact W.ret1 () rfl (.tmp rfl) trivial
    · have hm := hs5
      clear hs5
      refine W.region ?_
      refine WL.op rfl (Op1.load ty27 (.tmp rfl)) ?_
      obtain ⟨book, hv7, hm⟩ := bind_some hm
      refine WL.op rfl (Op1.call Try.call9 (law21_book_spec _ _ _ hv7) ⟨(.tmp rfl), trivial⟩) ?_
      refine WL.op rfl (Op1.notB (.tmp rfl)) ?_
      refine WL.mv rfl rfl ?_
      rcases bcases (!book) with hb8 | hb8
      · have hp9 := not_pos hb8
        rw [if_pos hp9] at hm
        refine WL.pass rfl rfl rfl rfl hb8 rfl rfl ?_
        refine WL.pass rfl rfl rfl rfl hb8 rfl rfl ?_
        refine WL.pass rfl rfl rfl rfl hb8 rfl rfl ?_
        refine WL.op rfl (Op1.pickT (.tmp rfl) hb8 .bool) ?_
        refine WL.nil ?_
        exact WN.meet true (Option.some.inj hm) ⟨Ent.q rfl, Ent.q rfl, Ent.q rfl, trivial⟩ trivial
      · have hp9 := not_neg hb8
        rw [if_neg hp9] at hm
        refine WL.run rfl rfl rfl rfl hb8 rfl rfl (Op1.load ty37 (.tmp rfl)) ?_
        obtain ⟨few, hv10, hm⟩ := bind_some hm
        refine WL.run rfl rfl rfl rfl hb8 rfl rfl (Op1.call Try.call10 (r17_Few_spec _ _ _ hv10) ⟨(.tmp rfl), trivial⟩) ?_
        refine WL.run rfl rfl rfl rfl hb8 rfl rfl (Op1.notB (.tmp rfl)) ?_
        refine WL.op rfl (Op1.pickF (.tmp rfl) hb8 (.tmp rfl)) ?_
        refine WL.nil ?_
        exact WN.meet (!few) (Option.some.inj hm) ⟨Ent.q rfl, Ent.q rfl, Ent.q rfl, trivial⟩ trivial

theorem address_each_spec : ∀ (n : Nat) (u : api_Unit) (to : api_Unit → Option Unit) (r : Unit), M.address_each n u to = some r → FSpec Try.prog 64 [(tapi_Unit.is u), (tF Try.prog (fun s : api_Unit × Unit => to s.1 = some s.2) (fun s : api_Unit × Unit => [tapi_Unit.is s.1]) (fun s : api_Unit × Unit => (Asn.eq (.tuple #[]))))] (Asn.eq (.tuple #[])) := by
  intro n
  induction n with
  | zero => intro u to r hm; cases hm
  | succ n ih =>
    intro u to r hm
    rw [M.address_each.eq_2] at hm
    refine FSpec.of Try.func64 rfl rfl rfl (fun g0 => ?_)
    refine W.sr ?_
    refine WL.op rfl (Op1.box (.tmp rfl)) ?_
    refine WL.nr ?_
    refine WL.mv rfl rfl ?_
    refine WL.op rfl (Op1.load ty27 (.tmp rfl)) ?_
    obtain ⟨v, hv1, hm⟩ := bind_some hm
    refine WL.op rfl (Op1.callF (ok := (fun s : api_Unit × Unit => to s.1 = some s.2)) (As := (fun s : api_Unit × Unit => [tapi_Unit.is s.1])) (A := (fun s : api_Unit × Unit => (Asn.eq (.tuple #[])))) (s := (u, v)) (.tmp rfl) hv1 ⟨(.tmp rfl), trivial⟩) ?_
    refine WL.nr ?_
    refine WL.op rfl (Op1.fieldAddr Try.underlying27 rfl (fun w => ⟨0, Try.sizeOf25 w⟩) fapi_Unit_5 (.tmp rfl)) ?_
    refine WL.op rfl (Op1.load ty25 (.tmp rfl)) ?_
    refine WL.op rfl (Op1.lenL Try.underlying25 (.tmp rfl)) ?_
    refine WL.op rfl (Op1.move (.int (inR64.2 (by omega)))) ?_
    refine WL.ns ?_
    refine W.block ?_
    obtain ⟨s2, hs3, hk4⟩ := bind_some hm
    clear hm
    refine W.loop (fun m (s : Int × List api_Unit × List api_Unit × Unit) => m = s.2.2.1.length ∧ u.Kids = s.2.1 ++ s.2.2.1 ∧ s.1 = (s.2.1.length : Int) ∧ M.address_each_loop1 to (M.address_each n) s.2.2.1 = some s2) (fun s => [(12, ((tI .i64).is s.1)), (1, (tF Try.prog (fun s : api_Unit × Unit => to s.1 = some s.2) (fun s : api_Unit × Unit => [tapi_Unit.is s.1]) (fun s : api_Unit × Unit => (Asn.eq (.tuple #[]))))), (10, ((tL tapi_Unit).is u.Kids)), (11, ((tI .i64).is (u.Kids.length : Int)))]) (fun s => []) u.Kids.length ((0 : Int), [], u.Kids, ()) ⟨rfl, rfl, rfl, hs3⟩ ⟨Ent.q rfl, Ent.q rfl, Ent.q rfl, Ent.q rfl, trivial⟩ trivial ?_
    rintro m ⟨i, pre, rest1, _⟩ ⟨hn8, hxs5, hi6, hm⟩
    try dsimp only at hn8 hxs5 hi6 hm
    change W _ _ _ _ _ _ _ [(12, ((tI .i64).is i)), (1, (tF Try.prog (fun s : api_Unit × Unit => to s.1 = some s.2) (fun s : api_Unit × Unit => [tapi_Unit.is s.1]) (fun s : api_Unit × Unit => (Asn.eq (.tuple #[]))))), (10, ((tL tapi_Unit).is u.Kids)), (11, ((tI .i64).is (u.Kids.length : Int)))] []
    refine W.lenL (s := 10) (.tmp rfl) fun hlen7 => ?_
    refine W.sr ?_
    refine WL.op rfl (Op1.ltI (.tmp rfl) (.tmp rfl)) ?_
    refine WL.ns ?_
    refine W.seq ?_
    refine W.cond (.tmp rfl) (fun hc10 => ?_) (fun hc10 => ?_)
    · have hp11 := of_decide_eq_true hc10
      obtain ⟨e, es, hrest13⟩ := range_more hxs5 hi6 hp11
      subst hrest13
      rw [M.address_each_loop1.eq_2] at hm
      refine W.skip ?_
      refine WN.seq ?_
      refine W.seq ?_
      refine W.block ?_
      refine W.sr ?_
      refine WL.op rfl (Op1.idxPre hxs5 hi6 Try.underlying25 Try.sizeOf27 (.tmp rfl) (.tmp rfl)) ?_
      refine WL.op rfl (Op1.load ty27 (.tmp rfl)) ?_
      refine WL.opR rfl (OpR.alloc 5 ze27) (fun b => ?_)
      refine WL.opU (OpR.storeB (b := b) 5 Try.sizeOf27 (Cellable.is tapi_Unit e) rfl (.tmp rfl) (.tmp rfl)) (fun _ => ?_)
      refine WL.sealed (t := tapi_Unit) (u := e) 5 5 rfl rfl ?_
      refine WL.nr1 ?_
      refine WL.op rfl (Op1.load ty27 (.tmp rfl)) ?_
      refine WL.mv rfl rfl ?_
      obtain ⟨each, hv14, hm⟩ := bind_some hm
      refine WL.op rfl (Op1.call Try.call64 (ih _ _ _ hv14) ⟨(.tmp rfl), (.tmp rfl), trivial⟩) ?_
      refine WL.nil ?_
      refine WN.block ?_
      refine WN.seq ?_
      refine W.region ?_
      refine WL.op rfl (Op1.addI (.tmp rfl) (.int (inR64.2 (by omega))) (range_inR hi6 hp11 hlen7)) ?_
      refine WL.mv rfl rfl ?_
      refine WL.nil ?_
      exact WN.again es.length (i + 1, pre ++ [e], es, ()) (range_lt hn8) ⟨rfl, range_step hxs5, range_idx hi6, hm⟩ ⟨Ent.q rfl, Ent.q rfl, Ent.q rfl, Ent.q rfl, trivial⟩ trivial
    · have hrest13 := range_end hxs5 hi6 (of_decide_eq_false hc10)
      subst hrest13
      rw [M.address_each_loop1.eq_1] at hm
      refine W.exit rfl ?_
      have hr15 := Option.some.inj hm
      clear hm
      subst hr15
      have hm := hk4
      try dsimp only at hm
      exact WN.fin () rfl (fun _ => rfl) trivial

end Go.Proofs.Ytfclekegoleiaaa
