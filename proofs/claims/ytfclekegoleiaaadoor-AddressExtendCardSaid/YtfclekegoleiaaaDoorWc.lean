/-
  The code does what the models say: written by program.
-/
import Derived.Test.YtfclekegoleiaaaDoorWb
set_option linter.unusedVariables false
set_option linter.unusedSimpArgs false
namespace Go.Proofs.YtfclekegoleiaaaDoor
open Go Go.Dec

set_option maxRecDepth 100000
set_option maxHeartbeats 4000000
theorem law07_AddressExtend_spec (n : Nat) (u : api_Unit) (p : List api_Step) (s0_ : api_Step) (r : Bool) (hm : M.law07_AddressExtend n u p s0_ = some r) : FSpecR Tryd.prog 4 [(tapi_Unit.is u), ((tL tapi_Step).is p), (tapi_Step.is s0_)] [(700000, Gl (tA 8 tS) 0 gv0), (700001, Gl (tA 8 (tL (tI .i64))) 1 gv1)] (fun _ : Unit => (tB.is r)) (fun _ => []) := by
  unfold M.law07_AddressExtend at hm
  refine FSpecR.of Tryd.func4 rfl rfl rfl (fun g0 => ?_)
  refine W.sr ?_
  refine WL.op rfl (Op1.box (.tmp rfl)) ?_
  refine WL.op rfl (Op1.box (.tmp rfl)) ?_
  refine WL.op rfl (Op1.assign .bool) ?_
  refine WL.ns ?_
  refine W.seq ?_
  obtain ⟨s1, hs2, hk3⟩ := bind_some hm
  clear hm
  refine W.join (fun s : Bool => s = s1) (fun s => [(49, (tB.is s)), (1, ((tL tapi_Step).is p)), (3, (tapi_Unit.ptr u)), (5, (tapi_Step.ptr s0_))]) (fun s => [(700000, Gl (tA 8 tS) 0 gv0), (700001, Gl (tA 8 (tL (tI .i64))) 1 gv1)]) ?_ ?_
  · rintro v hj69
    try dsimp only at hj69
    subst hj69
    have hm := hk3
    clear hk3
    try dsimp only at hm
    change W _ _ _ _ _ _ _ [(49, (tB.is v)), (1, ((tL tapi_Step).is p)), (3, (tapi_Unit.ptr u)), (5, (tapi_Step.ptr s0_))] [(700000, Gl (tA 8 tS) 0 gv0), (700001, Gl (tA 8 (tL (tI .i64))) 1 gv1)]
    refine W.cond (.tmp rfl) (fun hc22 => ?_) (fun hc22 => ?_)
    · have hp23 := hc22
      rw [if_pos hp23] at hm
      refine W.sr ?_
      obtain ⟨awake1, hv24, hm⟩ := bind_some hm
      refine WL.op rfl (Op1.call Tryd.call7 (law07_awake_spec _ _ hv24) trivial) ?_
      refine WL.gv rfl rfl ?_
      refine WL.ns ?_
      cases hm
      exact W.ret1 () rfl (.tmp rfl) trivial
    · have hp23 := ne_of_false hc22
      rw [if_neg hp23] at hm
      refine W.skip ?_
      refine WN.seq ?_
      refine W.seq ?_
      obtain ⟨out1, hv25, hm⟩ := bind_some hm
      obtain ⟨out2, hv26, hm⟩ := bind_some hm
      refine W.weakR (res' := [(700000, Gl (tA 8 tS) 0 gv0), (700001, Gl (tA 8 (tL (tI .i64))) 1 gv1)]) ⟨rfl, rfl, ⟨rfl, rfl, trivial⟩⟩ ?_
      refine W.drawM [.f (fun cv => (tO tapi_Step (cv 0) ([] : List api_Step))), .c ((tL tapi_Step).is p), .f (fun cv => (tO tapi_Step (cv 1) out1)), .c (tapi_Step.is s0_), .c ((tL tapi_Step).is [s0_]), .f (fun cv => (tO tapi_Step (cv 2) out2)), .f (fun cv => (tO tapi_Step (cv 2) out2))] [([], []), ([], [1]), ([0, 1], []), ([], [5]), ([3], []), ([2, 4], []), ([5], [])] [0, 2, 5] [[true], [], [false, true], [], [], [false, false, true], [false, false, true]] (fun m cv => match m with | 0 => [(700000, Gl (tA 8 tS) 0 gv0), (700001, Gl (tA 8 (tL (tI .i64))) 1 gv1)] | 1 => [(51, Own tapi_Step 41 (cv 0) ([] : List api_Step).length), (700000, Gl (tA 8 tS) 0 gv0), (700001, Gl (tA 8 (tL (tI .i64))) 1 gv1)] | 2 => [(51, Own tapi_Step 41 (cv 1) out1.length), (700000, Gl (tA 8 tS) 0 gv0), (700001, Gl (tA 8 (tL (tI .i64))) 1 gv1)] | _ => [(51, Own tapi_Step 41 (cv 2) out2.length), (700000, Gl (tA 8 tS) 0 gv0), (700001, Gl (tA 8 (tL (tI .i64))) 1 gv1)]) (fun _ => none) Tryd.mixed rfl rfl rfl rfl rfl ⟨fun m hm c t => by simp only [DA.at, upd_dep (r := [true]) (j := 0) rfl hm], ⟨fun _ _ _ _ => rfl, ⟨fun m hm c t => by simp only [DA.at, upd_dep (r := [false, true]) (j := 1) rfl hm], ⟨fun _ _ _ _ => rfl, ⟨fun _ _ _ _ => rfl, ⟨fun m hm c t => by simp only [DA.at, upd_dep (r := [false, false, true]) (j := 2) rfl hm], ⟨fun m hm c t => by simp only [DA.at, upd_dep (r := [false, false, true]) (j := 2) rfl hm], trivial⟩⟩⟩⟩⟩⟩⟩ rfl ⟨.inl rfl, ⟨.inr ⟨fun cv => [], (fun _ _ _ _ => trivial), fun cv => Op1.move (.tmp rfl)⟩, ⟨.inl rfl, ⟨.inr ⟨fun cv => [], (fun _ _ _ _ => trivial), fun cv => Op1.load ty41 (.tmp rfl)⟩, ⟨.inr ⟨fun cv => [], (fun _ _ _ _ => trivial), fun cv => Op1.buildSlice (n := 1) (ys := [(0, s0_)]) (z := zapi_Step) (xs := [s0_]) Tryd.underlying33 el41 ze41 ⟨rfl, (.tmp rfl), trivial⟩ (by simp) (by decide) rfl⟩, ⟨.inl rfl, ⟨.inr ⟨fun cv => [], (fun _ _ _ _ => trivial), fun cv => Op1.assign (.tmp rfl)⟩, trivial⟩⟩⟩⟩⟩⟩⟩ ⟨⟨_, _, _, [], (fun cv => [(51, Own tapi_Step 41 (cv 0) ([] : List api_Step).length)]), rfl, rfl, rfl, rfl, fun _ => rfl, fun _ _ => rfl, fun cv => OpR.buildSlice (n := 0) (ys := []) (z := zapi_Step) (xs := ([] : List api_Step)) 51 Tryd.underlying33 el41 ze41 trivial (by simp) (by decide) rfl⟩, ⟨⟨_, _, _, [51], (fun cv => [(51, Own tapi_Step 41 (cv 1) out1.length)]), rfl, rfl, rfl, rfl, fun _ => rfl, fun _ _ => rfl, fun cv => OpR.appC (key := 51) hv25 Tryd.underlying33 el41 (.tmp rfl) (.tmp rfl) rfl⟩, ⟨⟨_, _, _, [51], (fun cv => [(51, Own tapi_Step 41 (cv 2) out2.length)]), rfl, rfl, rfl, rfl, fun _ => rfl, fun _ _ => rfl, fun cv => OpR.appC (key := 51) hv26 Tryd.underlying33 el41 (.tmp rfl) (.tmp rfl) rfl⟩, trivial⟩⟩⟩ (fun cv => ?_)
      refine WN.seq ?_
      refine W.seq ?_
      refine W.sr ?_
      refine WL.mv rfl rfl ?_
      obtain ⟨valid1, hv27, hm⟩ := bind_some hm
      refine WL.op rfl (Op1.call Tryd.call17 (address_Valid_spec _ _ _ hv27) ⟨(Opd.own (.tmp rfl)), trivial⟩) ?_
      refine WL.op rfl (Op1.notB (.tmp rfl)) ?_
      refine WL.ns ?_
      refine W.cond (.tmp rfl) (fun hc28 => ?_) (fun hc28 => ?_)
      · have hp29 := not_pos hc28
        rw [if_pos hp29] at hm
        refine W.sr ?_
        refine WL.op rfl (Op1.load ty27 (.tmp rfl)) ?_
        refine WL.mv rfl rfl ?_
        obtain ⟨findal, hv30, hm⟩ := bind_some hm
        refine WL.op rfl (Op1.call Tryd.call18 (address_FindAll_spec _ _ _ _ hv30) ⟨(.tmp rfl), (Opd.own (.tmp rfl)), trivial⟩) ?_
        refine WL.op rfl (Op1.lenL Tryd.underlying31 (.tmp rfl)) ?_
        refine WL.op rfl (Op1.eqI (.tmp rfl) (.int (inR64.2 (by omega)))) ?_
        refine WL.gv rfl rfl ?_
        refine WL.ns ?_
        cases hm
        exact W.ret1 () rfl (.tmp rfl) trivial
      · have hp29 := not_neg hc28
        rw [if_neg hp29] at hm
        refine W.skip ?_
        refine WN.seq ?_
        refine W.sr ?_
        refine WL.opR rfl (OpR.buildSlice (n := 0) (ys := []) (z := zapi_Id) (xs := ([] : List api_Id)) 65 Tryd.underlying31 el23 ze23 trivial (by simp) (by decide) rfl) (fun k2 => ?_)
        refine WL.gv rfl rfl ?_
        refine WL.ns ?_
        refine W.seq ?_
        refine W.sr ?_
        refine WL.op rfl (Op1.load ty27 (.tmp rfl)) ?_
        refine WL.mv rfl rfl ?_
        obtain ⟨findal1, hv31, hm⟩ := bind_some hm
        refine WL.op rfl (Op1.call Tryd.call18 (address_FindAll_spec _ _ _ _ hv31) ⟨(.tmp rfl), (.tmp rfl), trivial⟩) ?_
        refine WL.op rfl (Op1.lenL Tryd.underlying31 (.tmp rfl)) ?_
        refine WL.op rfl (Op1.move (.int (inR64.2 (by omega)))) ?_
        refine WL.ns ?_
        refine W.block ?_
        obtain ⟨s32, hs33, hk34⟩ := bind_some hm
        clear hm
        refine W.loop (fun m (s : Int × List api_Id × List api_Id × (((List api_Id)) × Tok)) => m = s.2.2.1.length ∧ findal1 = s.2.1 ++ s.2.2.1 ∧ s.1 = (s.2.1.length : Int) ∧ M.law07_AddressExtend_loop1 n u s0_ s.2.2.1 s.2.2.2.1 = some s32) (fun s => [(70, ((tI .i64).is s.1)), (8, (tO tapi_Id s.2.2.2.2 s.2.2.2.1)), (3, (tapi_Unit.ptr u)), (5, (tapi_Step.ptr s0_)), (7, (tO tapi_Step (cv 2) out2)), (68, ((tL tapi_Id).is findal1)), (69, ((tI .i64).is (findal1.length : Int)))]) (fun s => [(65, Own tapi_Id 23 s.2.2.2.2 s.2.2.2.1.length), (51, Own tapi_Step 41 (cv 2) out2.length), (700000, Gl (tA 8 tS) 0 gv0), (700001, Gl (tA 8 (tL (tI .i64))) 1 gv1)]) findal1.length ((0 : Int), [], findal1, (([] : List api_Id), k2)) ⟨rfl, rfl, rfl, hs33⟩ ⟨Ent.q rfl, Ent.q rfl, Ent.q rfl, Ent.q rfl, Ent.q rfl, Ent.q rfl, Ent.q rfl, trivial⟩ ⟨rfl, rfl, ⟨rfl, rfl, ⟨rfl, rfl, ⟨rfl, rfl, trivial⟩⟩⟩⟩ ?_
        rintro m ⟨i, pre, rest3, ⟨want, k3⟩⟩ ⟨hn38, hxs35, hi36, hm⟩
        try dsimp only at hn38 hxs35 hi36 hm
        change W _ _ _ _ _ _ _ [(70, ((tI .i64).is i)), (8, (tO tapi_Id k3 want)), (3, (tapi_Unit.ptr u)), (5, (tapi_Step.ptr s0_)), (7, (tO tapi_Step (cv 2) out2)), (68, ((tL tapi_Id).is findal1)), (69, ((tI .i64).is (findal1.length : Int)))] [(65, Own tapi_Id 23 k3 want.length), (51, Own tapi_Step 41 (cv 2) out2.length), (700000, Gl (tA 8 tS) 0 gv0), (700001, Gl (tA 8 (tL (tI .i64))) 1 gv1)]
        refine W.lenL (s := 68) (.tmp rfl) fun hlen37 => ?_
        refine W.sr ?_
        refine WL.op rfl (Op1.ltI (.tmp rfl) (.tmp rfl)) ?_
        refine WL.ns ?_
        refine W.seq ?_
        refine W.cond (.tmp rfl) (fun hc40 => ?_) (fun hc40 => ?_)
        · have hp41 := of_decide_eq_true hc40
          obtain ⟨e, es, hrest43⟩ := range_more hxs35 hi36 hp41
          subst hrest43
          rw [M.law07_AddressExtend_loop1.eq_2] at hm
          refine W.skip ?_
          refine WN.seq ?_
          refine W.seq ?_
          refine W.block ?_
          refine W.sr ?_
          refine WL.op rfl (Op1.idxPre hxs35 hi36 Tryd.underlying31 Tryd.sizeOf23 (.tmp rfl) (.tmp rfl)) ?_
          refine WL.op rfl (Op1.load ty23 (.tmp rfl)) ?_
          refine WL.opR rfl (OpR.alloc 10 ze23) (fun b => ?_)
          refine WL.opU (OpR.storeB (b := b) 10 Tryd.sizeOf23 (Cellable.is tapi_Id e) rfl (.tmp rfl) (.tmp rfl)) (fun _ => ?_)
          refine WL.sealed (t := tapi_Id) (u := e) 10 10 rfl rfl ?_
          refine WL.nr ?_
          refine WL.op rfl (Op1.load ty27 (.tmp rfl)) ?_
          refine WL.op rfl (Op1.load ty23 (.tmp rfl)) ?_
          obtain ⟨find, hv44, hm⟩ := bind_some hm
          refine WL.op rfl (Op1.call Tryd.call19 (unit_Find_spec _ _ _ _ hv44) ⟨(.tmp rfl), (.tmp rfl), trivial⟩) ?_
          refine WL.mv rfl rfl ?_
          refine WL.op rfl (Op1.extract0 (.tmp rfl)) ?_
          refine WL.op rfl (Op1.extract1 (.tmp rfl)) ?_
          refine WL.opR rfl (OpR.alloc 11 ze27) (fun b1 => ?_)
          refine WL.opU (OpR.storeB (b := b1) 11 Tryd.sizeOf27 (Cellable.is tapi_Unit find.1) rfl (.tmp rfl) (.tmp rfl)) (fun _ => ?_)
          refine WL.sealed (t := tapi_Unit) (u := find.1) 11 11 rfl rfl ?_
          refine WL.gv rfl rfl ?_
          refine WL.ns ?_
          refine W.seq ?_
          refine W.sr ?_
          refine WL.mv rfl rfl ?_
          refine WL.op rfl (Op1.notB (.tmp rfl)) ?_
          refine WL.ns ?_
          refine W.cond (.tmp rfl) (fun hc45 => ?_) (fun hc45 => ?_)
          · have hp46 := not_pos hc45
            rw [if_pos hp46] at hm
            refine W.sr ?_
            refine WL.op rfl (Op1.assign .bool) ?_
            refine WL.ns ?_
            have hr47 := Option.some.inj hm
            clear hm
            subst hr47
            have hm := hk34
            try dsimp only at hm
            cases hm
            exact W.ret1 () rfl (.tmp rfl) trivial
          · have hp46 := not_neg hc45
            rw [if_neg hp46] at hm
            refine W.skip ?_
            refine WN.seq ?_
            refine W.sr ?_
            refine WL.op rfl (Op1.fieldAddr Tryd.underlying27 rfl (fun w => ⟨0, Tryd.sizeOf25 w⟩) fapi_Unit_5 (.tmp rfl)) ?_
            refine WL.op rfl (Op1.load ty25 (.tmp rfl)) ?_
            refine WL.op rfl (Op1.lenL Tryd.underlying25 (.tmp rfl)) ?_
            refine WL.op rfl (Op1.move (.int (inR64.2 (by omega)))) ?_
            refine WL.ns ?_
            refine W.block ?_
            obtain ⟨s48, hs49, hk50⟩ := bind_some hm
            clear hm
            refine W.loop (fun m (s : Int × List api_Unit × List api_Unit × (((List api_Id)) × Tok)) => m = s.2.2.1.length ∧ find.1.Kids = s.2.1 ++ s.2.2.1 ∧ s.1 = (s.2.1.length : Int) ∧ M.law07_AddressExtend_loop2 s0_ s.2.2.1 s.2.2.2.1 = some s48) (fun s => [(85, ((tI .i64).is s.1)), (8, (tO tapi_Id s.2.2.2.2 s.2.2.2.1)), (3, (tapi_Unit.ptr u)), (5, (tapi_Step.ptr s0_)), (7, (tO tapi_Step (cv 2) out2)), (68, ((tL tapi_Id).is findal1)), (69, ((tI .i64).is (findal1.length : Int))), (70, ((tI .i64).is i)), (83, ((tL tapi_Unit).is find.1.Kids)), (84, ((tI .i64).is (find.1.Kids.length : Int)))]) (fun s => [(65, Own tapi_Id 23 s.2.2.2.2 s.2.2.2.1.length), (51, Own tapi_Step 41 (cv 2) out2.length), (700000, Gl (tA 8 tS) 0 gv0), (700001, Gl (tA 8 (tL (tI .i64))) 1 gv1)]) find.1.Kids.length ((0 : Int), [], find.1.Kids, (want, k3)) ⟨rfl, rfl, rfl, hs49⟩ ⟨Ent.q rfl, Ent.q rfl, Ent.q rfl, Ent.q rfl, Ent.q rfl, Ent.q rfl, Ent.q rfl, Ent.q rfl, Ent.q rfl, Ent.q rfl, trivial⟩ ⟨rfl, rfl, ⟨rfl, rfl, ⟨rfl, rfl, ⟨rfl, rfl, trivial⟩⟩⟩⟩ ?_
            rintro m ⟨i1, pre1, rest2, ⟨want1, k4⟩⟩ ⟨hn54, hxs51, hi52, hm⟩
            try dsimp only at hn54 hxs51 hi52 hm
            change W _ _ _ _ _ _ _ [(85, ((tI .i64).is i1)), (8, (tO tapi_Id k4 want1)), (3, (tapi_Unit.ptr u)), (5, (tapi_Step.ptr s0_)), (7, (tO tapi_Step (cv 2) out2)), (68, ((tL tapi_Id).is findal1)), (69, ((tI .i64).is (findal1.length : Int))), (70, ((tI .i64).is i)), (83, ((tL tapi_Unit).is find.1.Kids)), (84, ((tI .i64).is (find.1.Kids.length : Int)))] [(65, Own tapi_Id 23 k4 want1.length), (51, Own tapi_Step 41 (cv 2) out2.length), (700000, Gl (tA 8 tS) 0 gv0), (700001, Gl (tA 8 (tL (tI .i64))) 1 gv1)]
            refine W.lenL (s := 83) (.tmp rfl) fun hlen53 => ?_
            refine W.sr ?_
            refine WL.op rfl (Op1.ltI (.tmp rfl) (.tmp rfl)) ?_
            refine WL.ns ?_
            refine W.seq ?_
            refine W.cond (.tmp rfl) (fun hc56 => ?_) (fun hc56 => ?_)
            · have hp57 := of_decide_eq_true hc56
              obtain ⟨e1, es1, hrest59⟩ := range_more hxs51 hi52 hp57
              subst hrest59
              rw [M.law07_AddressExtend_loop2.eq_2] at hm
              refine W.skip ?_
              refine WN.seq ?_
              refine W.seq ?_
              refine W.block ?_
              refine W.sr ?_
              refine WL.op rfl (Op1.idxPre hxs51 hi52 Tryd.underlying25 Tryd.sizeOf27 (.tmp rfl) (.tmp rfl)) ?_
              refine WL.op rfl (Op1.load ty27 (.tmp rfl)) ?_
              refine WL.opR rfl (OpR.alloc 14 ze27) (fun b2 => ?_)
              refine WL.opU (OpR.storeB (b := b2) 14 Tryd.sizeOf27 (Cellable.is tapi_Unit e1) rfl (.tmp rfl) (.tmp rfl)) (fun _ => ?_)
              refine WL.sealed (t := tapi_Unit) (u := e1) 14 14 rfl rfl ?_
              refine WL.nr ?_
              refine WL.op rfl (Op1.fieldAddr Tryd.underlying27 rfl (fun w => ⟨0, Tryd.sizeOf3 w⟩) fapi_Unit_1 (.tmp rfl)) ?_
              refine WL.op rfl (Op1.load ty3 (.tmp rfl)) ?_
              refine WL.op rfl (Op1.fieldAddr Tryd.underlying41 rfl (fun w => ⟨0, Tryd.sizeOf3 w⟩) fapi_Step_0 (.tmp rfl)) ?_
              refine WL.op rfl (Op1.load ty3 (.tmp rfl)) ?_
              refine WL.op rfl (Op1.eqI (.tmp rfl) (.tmp rfl)) ?_
              refine WL.mv rfl rfl ?_
              rcases bcases (decide (e1.Kind = s0_.Kind)) with hb60 | hb60
              · have hp61 := of_decide_eq_true hb60
                rw [if_pos hp61] at hm
                refine WL.run rfl rfl rfl rfl hb60 rfl rfl (Op1.fieldAddr Tryd.underlying27 rfl (fun w => ⟨0, Tryd.sizeOf9 w⟩) fapi_Unit_2 (.tmp rfl)) ?_
                refine WL.run rfl rfl rfl rfl hb60 rfl rfl (Op1.load ty9 (.tmp rfl)) ?_
                refine WL.run rfl rfl rfl rfl hb60 rfl rfl (Op1.fieldAddr Tryd.underlying41 rfl (fun w => ⟨0, Tryd.sizeOf9 w⟩) fapi_Step_1 (.tmp rfl)) ?_
                refine WL.run rfl rfl rfl rfl hb60 rfl rfl (Op1.load ty9 (.tmp rfl)) ?_
                refine WL.run rfl rfl rfl rfl hb60 rfl rfl (Op1.eqS (.tmp rfl) (.tmp rfl)) ?_
                refine WL.op rfl (Op1.pickT (.tmp rfl) hb60 (.tmp rfl)) ?_
                refine WL.ns ?_
                refine W.cond (.tmp rfl) (fun hc62 => ?_) (fun hc62 => ?_)
                · have hp63 := hc62
                  rw [if_pos hp63] at hm
                  refine W.region ?_
                  refine WL.mv rfl rfl ?_
                  refine WL.op rfl (Op1.fieldAddr Tryd.underlying27 rfl (fun w => ⟨2, Tryd.sizeOf23 w⟩) fapi_Unit_0 (.tmp rfl)) ?_
                  refine WL.op rfl (Op1.load ty23 (.tmp rfl)) ?_
                  refine WL.op rfl (Op1.buildSlice (n := 1) (ys := [(0, e1.Id)]) (z := zapi_Id) (xs := [e1.Id]) Tryd.underlying31 el23 ze23 ⟨rfl, (.tmp rfl), trivial⟩ (by simp) (by decide) rfl) ?_
                  obtain ⟨out3, hv64, hm⟩ := bind_some hm
                  refine WL.opR rfl (OpR.appC (key := 65) hv64 Tryd.underlying31 el23 (.tmp rfl) (.tmp rfl) rfl) (fun k5 => ?_)
                  refine WL.gv rfl rfl ?_
                  refine WL.nil ?_
                  refine WN.block ?_
                  refine WN.seq ?_
                  refine W.region ?_
                  refine WL.op rfl (Op1.addI (.tmp rfl) (.int (inR64.2 (by omega))) (range_inR hi52 hp57 hlen53)) ?_
                  refine WL.mv rfl rfl ?_
                  refine WL.nil ?_
                  exact WN.again es1.length (i1 + 1, pre1 ++ [e1], es1, (out3, k5)) (range_lt hn54) ⟨rfl, range_step hxs51, range_idx hi52, hm⟩ ⟨Ent.q rfl, Ent.q rfl, Ent.q rfl, Ent.q rfl, Ent.q rfl, Ent.q rfl, Ent.q rfl, Ent.q rfl, Ent.q rfl, Ent.q rfl, trivial⟩ ⟨rfl, rfl, ⟨rfl, rfl, ⟨rfl, rfl, ⟨rfl, rfl, trivial⟩⟩⟩⟩
                · have hp63 := ne_of_false hc62
                  rw [if_neg hp63] at hm
                  refine W.skip ?_
                  refine WN.block ?_
                  refine WN.seq ?_
                  refine W.region ?_
                  refine WL.op rfl (Op1.addI (.tmp rfl) (.int (inR64.2 (by omega))) (range_inR hi52 hp57 hlen53)) ?_
                  refine WL.mv rfl rfl ?_
                  refine WL.nil ?_
                  exact WN.again es1.length (i1 + 1, pre1 ++ [e1], es1, (want1, k4)) (range_lt hn54) ⟨rfl, range_step hxs51, range_idx hi52, hm⟩ ⟨Ent.q rfl, Ent.q rfl, Ent.q rfl, Ent.q rfl, Ent.q rfl, Ent.q rfl, Ent.q rfl, Ent.q rfl, Ent.q rfl, Ent.q rfl, trivial⟩ ⟨rfl, rfl, ⟨rfl, rfl, ⟨rfl, rfl, ⟨rfl, rfl, trivial⟩⟩⟩⟩
              · have hp61 := of_decide_eq_false hb60
                rw [if_neg hp61] at hm
                refine WL.pass rfl rfl rfl rfl hb60 rfl rfl ?_
                refine WL.pass rfl rfl rfl rfl hb60 rfl rfl ?_
                refine WL.pass rfl rfl rfl rfl hb60 rfl rfl ?_
                refine WL.pass rfl rfl rfl rfl hb60 rfl rfl ?_
                refine WL.pass rfl rfl rfl rfl hb60 rfl rfl ?_
                refine WL.op rfl (Op1.pickF (.tmp rfl) hb60 .bool) ?_
                refine WL.ns ?_
                refine W.condF (.tmp rfl) ?_
                refine W.skip ?_
                refine WN.block ?_
                refine WN.seq ?_
                refine W.region ?_
                refine WL.op rfl (Op1.addI (.tmp rfl) (.int (inR64.2 (by omega))) (range_inR hi52 hp57 hlen53)) ?_
                refine WL.mv rfl rfl ?_
                refine WL.nil ?_
                exact WN.again es1.length (i1 + 1, pre1 ++ [e1], es1, (want1, k4)) (range_lt hn54) ⟨rfl, range_step hxs51, range_idx hi52, hm⟩ ⟨Ent.q rfl, Ent.q rfl, Ent.q rfl, Ent.q rfl, Ent.q rfl, Ent.q rfl, Ent.q rfl, Ent.q rfl, Ent.q rfl, Ent.q rfl, trivial⟩ ⟨rfl, rfl, ⟨rfl, rfl, ⟨rfl, rfl, ⟨rfl, rfl, trivial⟩⟩⟩⟩
            · have hrest59 := range_end hxs51 hi52 (of_decide_eq_false hc56)
              subst hrest59
              rw [M.law07_AddressExtend_loop2.eq_1] at hm
              refine W.exit rfl ?_
              have hr65 := Option.some.inj hm
              clear hm
              subst hr65
              have hm := hk50
              try dsimp only at hm
              refine WN.block ?_
              refine WN.seq ?_
              refine W.region ?_
              refine WL.op rfl (Op1.addI (.tmp rfl) (.int (inR64.2 (by omega))) (range_inR hi36 hp41 hlen37)) ?_
              refine WL.mv rfl rfl ?_
              refine WL.nil ?_
              exact WN.again es.length (i + 1, pre ++ [e], es, (want1, k4)) (range_lt hn38) ⟨rfl, range_step hxs35, range_idx hi36, hm⟩ ⟨Ent.q rfl, Ent.q rfl, Ent.q rfl, Ent.q rfl, Ent.q rfl, Ent.q rfl, Ent.q rfl, trivial⟩ ⟨rfl, rfl, ⟨rfl, rfl, ⟨rfl, rfl, ⟨rfl, rfl, trivial⟩⟩⟩⟩
        · have hrest43 := range_end hxs35 hi36 (of_decide_eq_false hc40)
          subst hrest43
          rw [M.law07_AddressExtend_loop1.eq_1] at hm
          refine W.exit rfl ?_
          have hr66 := Option.some.inj hm
          clear hm
          subst hr66
          have hm := hk34
          try dsimp only at hm
          refine WN.seq ?_
          refine W.sr ?_
          refine WL.op rfl (Op1.load ty27 (.tmp rfl)) ?_
          refine WL.mv rfl rfl ?_
          obtain ⟨findal2, hv67, hm⟩ := bind_some hm
          refine WL.op rfl (Op1.call Tryd.call18 (address_FindAll_spec _ _ _ _ hv67) ⟨(.tmp rfl), (Opd.own (.tmp rfl)), trivial⟩) ?_
          refine WL.mv rfl rfl ?_
          obtain ⟨ids, hv68, hm⟩ := bind_some hm
          refine WL.op rfl (Op1.call Tryd.call20 (r07_Ids_spec _ _ _ _ hv68) ⟨(.tmp rfl), (Opd.own (.tmp rfl)), trivial⟩) ?_
          refine WL.gv rfl rfl ?_
          refine WL.ns ?_
          cases hm
          exact W.ret1 () rfl (.tmp rfl) trivial
  · have hm := hs2
    clear hs2
    refine W.region ?_
    obtain ⟨awake, hv4, hm⟩ := bind_some hm
    refine WL.op rfl (Op1.call Tryd.call7 (law07_awake_spec _ _ hv4) trivial) ?_
    refine WL.op rfl (Op1.notB (.tmp rfl)) ?_
    refine WL.mv rfl rfl ?_
    rcases bcases (!awake) with hb5 | hb5
    · have hp6 := not_pos hb5
      rw [if_pos hp6] at hm
      refine WL.pass rfl rfl rfl rfl hb5 rfl rfl ?_
      refine WL.pass rfl rfl rfl rfl hb5 rfl rfl ?_
      refine WL.pass rfl rfl rfl rfl hb5 rfl rfl ?_
      refine WL.op rfl (Op1.pickT (.tmp rfl) hb5 .bool) ?_
      refine WL.mv rfl rfl ?_
      refine WL.pass rfl rfl rfl rfl rfl rfl rfl ?_
      refine WL.pass rfl rfl rfl rfl rfl rfl rfl ?_
      refine WL.pass rfl rfl rfl rfl rfl rfl rfl ?_
      refine WL.op rfl (Op1.pickT (.tmp rfl) rfl .bool) ?_
      refine WL.mv rfl rfl ?_
      refine WL.pass rfl rfl rfl rfl rfl rfl rfl ?_
      refine WL.pass rfl rfl rfl rfl rfl rfl rfl ?_
      refine WL.pass rfl rfl rfl rfl rfl rfl rfl ?_
      refine WL.op rfl (Op1.pickT (.tmp rfl) rfl .bool) ?_
      refine WL.mv rfl rfl ?_
      refine WL.pass rfl rfl rfl rfl rfl rfl rfl ?_
      refine WL.pass rfl rfl rfl rfl rfl rfl rfl ?_
      refine WL.pass rfl rfl rfl rfl rfl rfl rfl ?_
      refine WL.pass rfl rfl rfl rfl rfl rfl rfl ?_
      refine WL.pass rfl rfl rfl rfl rfl rfl rfl ?_
      refine WL.pass rfl rfl rfl rfl rfl rfl rfl ?_
      refine WL.op rfl (Op1.pickT (.tmp rfl) rfl .bool) ?_
      refine WL.mv rfl rfl ?_
      refine WL.pass rfl rfl rfl rfl rfl rfl rfl ?_
      refine WL.pass rfl rfl rfl rfl rfl rfl rfl ?_
      refine WL.pass rfl rfl rfl rfl rfl rfl rfl ?_
      refine WL.op rfl (Op1.pickT (.tmp rfl) rfl .bool) ?_
      refine WL.mv rfl rfl ?_
      refine WL.pass rfl rfl rfl rfl rfl rfl rfl ?_
      refine WL.pass rfl rfl rfl rfl rfl rfl rfl ?_
      refine WL.pass rfl rfl rfl rfl rfl rfl rfl ?_
      refine WL.op rfl (Op1.pickT (.tmp rfl) rfl .bool) ?_
      refine WL.nil ?_
      exact WN.meet true (Option.some.inj hm) ⟨Ent.q rfl, Ent.q rfl, Ent.q rfl, Ent.q rfl, trivial⟩ ⟨rfl, rfl, ⟨rfl, rfl, trivial⟩⟩
    · have hp6 := not_neg hb5
      rw [if_neg hp6] at hm
      refine WL.run rfl rfl rfl rfl hb5 rfl rfl (Op1.load ty27 (.tmp rfl)) ?_
      obtain ⟨few, hv7, hm⟩ := bind_some hm
      refine WL.run rfl rfl rfl rfl hb5 rfl rfl (Op1.call Tryd.call8 (r07_Few_spec _ _ _ _ hv7) ⟨(.tmp rfl), (.int (inR64.2 (by omega))), trivial⟩) ?_
      refine WL.run rfl rfl rfl rfl hb5 rfl rfl (Op1.notB (.tmp rfl)) ?_
      refine WL.op rfl (Op1.pickF (.tmp rfl) hb5 (.tmp rfl)) ?_
      refine WL.mv rfl rfl ?_
      rcases bcases (!few) with hb8 | hb8
      · have hp9 := not_pos hb8
        rw [if_pos hp9] at hm
        refine WL.pass rfl rfl rfl rfl hb8 rfl rfl ?_
        refine WL.pass rfl rfl rfl rfl hb8 rfl rfl ?_
        refine WL.pass rfl rfl rfl rfl hb8 rfl rfl ?_
        refine WL.op rfl (Op1.pickT (.tmp rfl) hb8 .bool) ?_
        refine WL.mv rfl rfl ?_
        refine WL.pass rfl rfl rfl rfl rfl rfl rfl ?_
        refine WL.pass rfl rfl rfl rfl rfl rfl rfl ?_
        refine WL.pass rfl rfl rfl rfl rfl rfl rfl ?_
        refine WL.op rfl (Op1.pickT (.tmp rfl) rfl .bool) ?_
        refine WL.mv rfl rfl ?_
        refine WL.pass rfl rfl rfl rfl rfl rfl rfl ?_
        refine WL.pass rfl rfl rfl rfl rfl rfl rfl ?_
        refine WL.pass rfl rfl rfl rfl rfl rfl rfl ?_
        refine WL.pass rfl rfl rfl rfl rfl rfl rfl ?_
        refine WL.pass rfl rfl rfl rfl rfl rfl rfl ?_
        refine WL.pass rfl rfl rfl rfl rfl rfl rfl ?_
        refine WL.op rfl (Op1.pickT (.tmp rfl) rfl .bool) ?_
        refine WL.mv rfl rfl ?_
        refine WL.pass rfl rfl rfl rfl rfl rfl rfl ?_
        refine WL.pass rfl rfl rfl rfl rfl rfl rfl ?_
        refine WL.pass rfl rfl rfl rfl rfl rfl rfl ?_
        refine WL.op rfl (Op1.pickT (.tmp rfl) rfl .bool) ?_
        refine WL.mv rfl rfl ?_
        refine WL.pass rfl rfl rfl rfl rfl rfl rfl ?_
        refine WL.pass rfl rfl rfl rfl rfl rfl rfl ?_
        refine WL.pass rfl rfl rfl rfl rfl rfl rfl ?_
        refine WL.op rfl (Op1.pickT (.tmp rfl) rfl .bool) ?_
        refine WL.nil ?_
        exact WN.meet true (Option.some.inj hm) ⟨Ent.q rfl, Ent.q rfl, Ent.q rfl, Ent.q rfl, trivial⟩ ⟨rfl, rfl, ⟨rfl, rfl, trivial⟩⟩
      · have hp9 := not_neg hb8
        rw [if_neg hp9] at hm
        refine WL.run rfl rfl rfl rfl hb8 rfl rfl (Op1.move (.tmp rfl)) ?_
        refine WL.run rfl rfl rfl rfl hb8 rfl rfl (Op1.lenL Tryd.underlying33 (.tmp rfl)) ?_
        refine WL.run rfl rfl rfl rfl hb8 rfl rfl (Op1.ltI (.tmp rfl) (.int (inR64.2 (by omega)))) ?_
        refine WL.op rfl (Op1.pickF (.tmp rfl) hb8 (.tmp rfl)) ?_
        refine WL.mv rfl rfl ?_
        rcases bcases (decide ((p.length : Int) < (1 : Int))) with hb10 | hb10
        · have hp11 := of_decide_eq_true hb10
          rw [if_pos hp11] at hm
          refine WL.pass rfl rfl rfl rfl hb10 rfl rfl ?_
          refine WL.pass rfl rfl rfl rfl hb10 rfl rfl ?_
          refine WL.pass rfl rfl rfl rfl hb10 rfl rfl ?_
          refine WL.op rfl (Op1.pickT (.tmp rfl) hb10 .bool) ?_
          refine WL.mv rfl rfl ?_
          refine WL.pass rfl rfl rfl rfl rfl rfl rfl ?_
          refine WL.pass rfl rfl rfl rfl rfl rfl rfl ?_
          refine WL.pass rfl rfl rfl rfl rfl rfl rfl ?_
          refine WL.pass rfl rfl rfl rfl rfl rfl rfl ?_
          refine WL.pass rfl rfl rfl rfl rfl rfl rfl ?_
          refine WL.pass rfl rfl rfl rfl rfl rfl rfl ?_
          refine WL.op rfl (Op1.pickT (.tmp rfl) rfl .bool) ?_
          refine WL.mv rfl rfl ?_
          refine WL.pass rfl rfl rfl rfl rfl rfl rfl ?_
          refine WL.pass rfl rfl rfl rfl rfl rfl rfl ?_
          refine WL.pass rfl rfl rfl rfl rfl rfl rfl ?_
          refine WL.op rfl (Op1.pickT (.tmp rfl) rfl .bool) ?_
          refine WL.mv rfl rfl ?_
          refine WL.pass rfl rfl rfl rfl rfl rfl rfl ?_
          refine WL.pass rfl rfl rfl rfl rfl rfl rfl ?_
          refine WL.pass rfl rfl rfl rfl rfl rfl rfl ?_
          refine WL.op rfl (Op1.pickT (.tmp rfl) rfl .bool) ?_
          refine WL.nil ?_
          exact WN.meet true (Option.some.inj hm) ⟨Ent.q rfl, Ent.q rfl, Ent.q rfl, Ent.q rfl, trivial⟩ ⟨rfl, rfl, ⟨rfl, rfl, trivial⟩⟩
        · have hp11 := of_decide_eq_false hb10
          rw [if_neg hp11] at hm
          refine WL.run rfl rfl rfl rfl hb10 rfl rfl (Op1.move (.tmp rfl)) ?_
          refine WL.run rfl rfl rfl rfl hb10 rfl rfl (Op1.lenL Tryd.underlying33 (.tmp rfl)) ?_
          refine WL.run rfl rfl rfl rfl hb10 rfl rfl (Op1.gtI (.tmp rfl) (.int (inR64.2 (by omega)))) ?_
          refine WL.op rfl (Op1.pickF (.tmp rfl) hb10 (.tmp rfl)) ?_
          refine WL.mv rfl rfl ?_
          rcases bcases (decide ((8 : Int) < (p.length : Int))) with hb12 | hb12
          · have hp13 := of_decide_eq_true hb12
            rw [if_pos hp13] at hm
            refine WL.pass rfl rfl rfl rfl hb12 rfl rfl ?_
            refine WL.pass rfl rfl rfl rfl hb12 rfl rfl ?_
            refine WL.pass rfl rfl rfl rfl hb12 rfl rfl ?_
            refine WL.pass rfl rfl rfl rfl hb12 rfl rfl ?_
            refine WL.pass rfl rfl rfl rfl hb12 rfl rfl ?_
            refine WL.pass rfl rfl rfl rfl hb12 rfl rfl ?_
            refine WL.op rfl (Op1.pickT (.tmp rfl) hb12 .bool) ?_
            refine WL.mv rfl rfl ?_
            refine WL.pass rfl rfl rfl rfl rfl rfl rfl ?_
            refine WL.pass rfl rfl rfl rfl rfl rfl rfl ?_
            refine WL.pass rfl rfl rfl rfl rfl rfl rfl ?_
            refine WL.op rfl (Op1.pickT (.tmp rfl) rfl .bool) ?_
            refine WL.mv rfl rfl ?_
            refine WL.pass rfl rfl rfl rfl rfl rfl rfl ?_
            refine WL.pass rfl rfl rfl rfl rfl rfl rfl ?_
            refine WL.pass rfl rfl rfl rfl rfl rfl rfl ?_
            refine WL.op rfl (Op1.pickT (.tmp rfl) rfl .bool) ?_
            refine WL.nil ?_
            exact WN.meet true (Option.some.inj hm) ⟨Ent.q rfl, Ent.q rfl, Ent.q rfl, Ent.q rfl, trivial⟩ ⟨rfl, rfl, ⟨rfl, rfl, trivial⟩⟩
          · have hp13 := of_decide_eq_false hb12
            rw [if_neg hp13] at hm
            refine WL.run rfl rfl rfl rfl hb12 rfl rfl (Op1.load ty41 (.tmp rfl)) ?_
            refine WL.runR rfl rfl rfl rfl hb12 rfl rfl (OpR.buildSlice (n := 1) (ys := [(0, s0_)]) (z := zapi_Step) (xs := [s0_]) 34 Tryd.underlying33 el41 ze41 ⟨rfl, (.tmp rfl), trivial⟩ (by simp) (by decide) rfl) (fun k => ?_)
            refine WL.run rfl rfl rfl rfl hb12 rfl rfl (Op1.move (.tmp rfl)) ?_
            obtain ⟨out, hv14, hm⟩ := bind_some hm
            refine WL.runR rfl rfl rfl rfl hb12 rfl rfl (OpR.appC (key := 34) hv14 Tryd.underlying33 el41 (.tmp rfl) (.tmp rfl) rfl) (fun k1 => ?_)
            obtain ⟨short, hv15, hm⟩ := bind_some hm
            refine WL.run rfl rfl rfl rfl hb12 rfl rfl (Op1.call Tryd.call16 (law07_short_spec _ _ _ hv15) ⟨(Opd.own (.tmp rfl)), trivial⟩) ?_
            refine WL.run rfl rfl rfl rfl hb12 rfl rfl (Op1.notB (.tmp rfl)) ?_
            refine WL.op rfl (Op1.pickF (.tmp rfl) hb12 (.tmp rfl)) ?_
            refine WL.mv rfl rfl ?_
            rcases bcases (!short) with hb16 | hb16
            · have hp17 := not_pos hb16
              rw [if_pos hp17] at hm
              refine WL.pass rfl rfl rfl rfl hb16 rfl rfl ?_
              refine WL.pass rfl rfl rfl rfl hb16 rfl rfl ?_
              refine WL.pass rfl rfl rfl rfl hb16 rfl rfl ?_
              refine WL.op rfl (Op1.pickT (.tmp rfl) hb16 .bool) ?_
              refine WL.mv rfl rfl ?_
              refine WL.pass rfl rfl rfl rfl rfl rfl rfl ?_
              refine WL.pass rfl rfl rfl rfl rfl rfl rfl ?_
              refine WL.pass rfl rfl rfl rfl rfl rfl rfl ?_
              refine WL.op rfl (Op1.pickT (.tmp rfl) rfl .bool) ?_
              refine WL.nil ?_
              exact WN.meet true (Option.some.inj hm) ⟨Ent.q rfl, Ent.q rfl, Ent.q rfl, Ent.q rfl, trivial⟩ ⟨rfl, rfl, ⟨rfl, rfl, trivial⟩⟩
            · have hp17 := not_neg hb16
              rw [if_neg hp17] at hm
              refine WL.run rfl rfl rfl rfl hb16 rfl rfl (Op1.load ty27 (.tmp rfl)) ?_
              obtain ⟨valid, hv18, hm⟩ := bind_some hm
              refine WL.run rfl rfl rfl rfl hb16 rfl rfl (Op1.callG (rin := [(700000, Gl (tA 8 tS) 0 gv0), (700001, Gl (tA 8 (tL (tI .i64))) 1 gv1)]) Tryd.call9 (unit_Valid_spec _ _ _ hv18) ⟨rfl, rfl, trivial⟩ ⟨rfl, rfl, ⟨rfl, rfl, trivial⟩⟩ ⟨(.tmp rfl), trivial⟩) ?_
              refine WL.run rfl rfl rfl rfl hb16 rfl rfl (Op1.notB (.tmp rfl)) ?_
              refine WL.op rfl (Op1.pickF (.tmp rfl) hb16 (.tmp rfl)) ?_
              refine WL.mv rfl rfl ?_
              rcases bcases (!valid) with hb19 | hb19
              · have hp20 := not_pos hb19
                rw [if_pos hp20] at hm
                refine WL.pass rfl rfl rfl rfl hb19 rfl rfl ?_
                refine WL.pass rfl rfl rfl rfl hb19 rfl rfl ?_
                refine WL.pass rfl rfl rfl rfl hb19 rfl rfl ?_
                refine WL.op rfl (Op1.pickT (.tmp rfl) hb19 .bool) ?_
                refine WL.nil ?_
                exact WN.meet true (Option.some.inj hm) ⟨Ent.q rfl, Ent.q rfl, Ent.q rfl, Ent.q rfl, trivial⟩ ⟨rfl, rfl, ⟨rfl, rfl, trivial⟩⟩
              · have hp20 := not_neg hb19
                rw [if_neg hp20] at hm
                refine WL.run rfl rfl rfl rfl hb19 rfl rfl (Op1.load ty27 (.tmp rfl)) ?_
                obtain ⟨apart, hv21, hm⟩ := bind_some hm
                refine WL.run rfl rfl rfl rfl hb19 rfl rfl (Op1.call Tryd.call10 (law07_apart_spec _ _ _ hv21) ⟨(.tmp rfl), trivial⟩) ?_
                refine WL.run rfl rfl rfl rfl hb19 rfl rfl (Op1.notB (.tmp rfl)) ?_
                refine WL.op rfl (Op1.pickF (.tmp rfl) hb19 (.tmp rfl)) ?_
                refine WL.nil ?_
                exact WN.meet (!apart) (Option.some.inj hm) ⟨Ent.q rfl, Ent.q rfl, Ent.q rfl, Ent.q rfl, trivial⟩ ⟨rfl, rfl, ⟨rfl, rfl, trivial⟩⟩

end Go.Proofs.YtfclekegoleiaaaDoor
