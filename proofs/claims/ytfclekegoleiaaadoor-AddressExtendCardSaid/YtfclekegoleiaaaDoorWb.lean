/-
  The code does what the models say: written by program.
-/
import Derived.Test.YtfclekegoleiaaaDoorWa
set_option linter.unusedVariables false
set_option linter.unusedSimpArgs false
namespace Go.Proofs.YtfclekegoleiaaaDoor
open Go Go.Dec

set_option maxRecDepth 100000
set_option maxHeartbeats 4000000
theorem slices_Contains_int_int_spec (n : Nat) (s0_ : List Int) (v : Int) (r : Bool) (hm : M.slices_Contains_int_int n s0_ v = some r) : FSpec Tryd.prog 67 [((tL (tI .i64)).is s0_), ((tI .i64).is v)] (tB.is r) := by
  unfold M.slices_Contains_int_int at hm
  refine FSpec.of Tryd.func67 rfl rfl rfl (fun g0 => ?_)
  refine W.sr ?_
  refine WL.op rfl (Op1.assign .bool) ?_
  refine WL.nr ?_
  refine WL.mv rfl rfl ?_
  refine WL.mv rfl rfl ?_
  obtain ⟨int, hv1, hm⟩ := bind_some hm
  refine WL.op rfl (Op1.call Tryd.call78 (slices_Index_int_int_spec _ _ _ _ hv1) ⟨(.tmp rfl), (.tmp rfl), trivial⟩) ?_
  refine WL.op rfl (Op1.geI (.tmp rfl) (.int (inR64.2 (by omega)))) ?_
  refine WL.gv rfl rfl ?_
  refine WL.ns ?_
  cases hm
  exact W.ret1 () rfl (.tmp rfl) trivial

theorem unit_CanContain_spec (n : Nat) (parent : Int) (kind : Int) (r : Bool) (hm : M.unit_CanContain n parent kind = some r) : FSpecR Tryd.prog 52 [((tI .i64).is parent), ((tI .i64).is kind)] [(700001, Gl (tA 8 (tL (tI .i64))) 1 gv1)] (fun _ : Unit => (tB.is r)) (fun _ => []) := by
  unfold M.unit_CanContain at hm
  refine FSpecR.of Tryd.func52 rfl rfl rfl (fun g0 => ?_)
  refine W.sr ?_
  refine WL.op rfl (Op1.assign .bool) ?_
  refine WL.nr ?_
  refine WL.mv rfl rfl ?_
  refine WL.op rfl (Op1.geI (.tmp rfl) (.int (inR64.2 (by omega)))) ?_
  refine WL.mv rfl rfl ?_
  rcases bcases (decide ((0 : Int) ≤ parent)) with hb1 | hb1
  · have hp2 := of_decide_eq_true hb1
    rw [if_pos hp2] at hm
    refine WL.run rfl rfl rfl rfl hb1 rfl rfl (Op1.move (.tmp rfl)) ?_
    refine WL.run rfl rfl rfl rfl hb1 rfl rfl (Op1.ltI (.tmp rfl) (.int (inR64.2 (by omega)))) ?_
    refine WL.op rfl (Op1.pickT (.tmp rfl) hb1 (.tmp rfl)) ?_
    refine WL.mv rfl rfl ?_
    rcases bcases (decide (parent < (8 : Int))) with hb3 | hb3
    · have hp4 := of_decide_eq_true hb3
      rw [if_pos hp4] at hm
      refine WL.run rfl rfl rfl rfl hb3 rfl rfl (Op1.move (.tmp rfl)) ?_
      obtain ⟨v, hv5, hm⟩ := bind_some hm
      refine WL.addG 900001 700001 rfl ?_
      refine WL.run rfl rfl rfl rfl hb3 rfl rfl (Op1.idxA hv5 Tryd.underlying108 Tryd.sizeOf107 (Opd.glob (s := 900001) rfl) (.tmp rfl)) ?_
      refine WL.run rfl rfl rfl rfl hb3 rfl rfl (Op1.load ty107 (.tmp rfl)) ?_
      refine WL.run rfl rfl rfl rfl hb3 rfl rfl (Op1.move (.tmp rfl)) ?_
      obtain ⟨int, hv6, hm⟩ := bind_some hm
      refine WL.run rfl rfl rfl rfl hb3 rfl rfl (Op1.call Tryd.call67 (slices_Contains_int_int_spec _ _ _ _ hv6) ⟨(.tmp rfl), (.tmp rfl), trivial⟩) ?_
      refine WL.op rfl (Op1.pickT (.tmp rfl) hb3 (.tmp rfl)) ?_
      refine WL.gv rfl rfl ?_
      refine WL.ns ?_
      cases hm
      exact W.ret1 () rfl (.tmp rfl) trivial
    · have hp4 := of_decide_eq_false hb3
      rw [if_neg hp4] at hm
      refine WL.pass rfl rfl rfl rfl hb3 rfl rfl ?_
      refine WL.pass rfl rfl rfl rfl hb3 rfl rfl ?_
      refine WL.pass rfl rfl rfl rfl hb3 rfl rfl ?_
      refine WL.pass rfl rfl rfl rfl hb3 rfl rfl ?_
      refine WL.pass rfl rfl rfl rfl hb3 rfl rfl ?_
      refine WL.op rfl (Op1.pickF (.tmp rfl) hb3 .bool) ?_
      refine WL.gv rfl rfl ?_
      refine WL.ns ?_
      cases hm
      exact W.ret1 () rfl (.tmp rfl) trivial
  · have hp2 := of_decide_eq_false hb1
    rw [if_neg hp2] at hm
    refine WL.pass rfl rfl rfl rfl hb1 rfl rfl ?_
    refine WL.pass rfl rfl rfl rfl hb1 rfl rfl ?_
    refine WL.op rfl (Op1.pickF (.tmp rfl) hb1 .bool) ?_
    refine WL.mv rfl rfl ?_
    refine WL.pass rfl rfl rfl rfl rfl rfl rfl ?_
    refine WL.pass rfl rfl rfl rfl rfl rfl rfl ?_
    refine WL.pass rfl rfl rfl rfl rfl rfl rfl ?_
    refine WL.pass rfl rfl rfl rfl rfl rfl rfl ?_
    refine WL.pass rfl rfl rfl rfl rfl rfl rfl ?_
    refine WL.op rfl (Op1.pickF (.tmp rfl) rfl .bool) ?_
    refine WL.gv rfl rfl ?_
    refine WL.ns ?_
    cases hm
    exact W.ret1 () rfl (.tmp rfl) trivial

theorem unit_alone_spec (n : Nat) (u : api_Unit) (r : Bool) (hm : M.unit_alone n u = some r) : FSpecR Tryd.prog 29 [(tapi_Unit.is u)] [(700000, Gl (tA 8 tS) 0 gv0), (700001, Gl (tA 8 (tL (tI .i64))) 1 gv1)] (fun _ : Unit => (tB.is r)) (fun _ => []) := by
  unfold M.unit_alone at hm
  refine FSpecR.of Tryd.func29 rfl rfl rfl (fun g0 => ?_)
  refine W.sr ?_
  refine WL.op rfl (Op1.box (.tmp rfl)) ?_
  refine WL.op rfl (Op1.assign .bool) ?_
  refine WL.ns ?_
  obtain ⟨s1, hs2, hk3⟩ := bind_some hm
  clear hm
  refine W.join (fun s : Unit => (Sum.inl s : Unit ⊕ Bool) = s1) (fun s => [(1, (tapi_Unit.ptr u))]) (fun s => [(700000, Gl (tA 8 tS) 0 gv0), (700001, Gl (tA 8 (tL (tI .i64))) 1 gv1)]) ?_ ?_
  · rintro _ hj49
    try dsimp only at hj49
    subst hj49
    have hm := hk3
    clear hk3
    try dsimp only at hm
    change W _ _ _ _ _ _ _ [(1, (tapi_Unit.ptr u))] [(700000, Gl (tA 8 tS) 0 gv0), (700001, Gl (tA 8 (tL (tI .i64))) 1 gv1)]
    refine W.sr ?_
    refine WL.opR rfl (OpR.makeMap tunit_called tB 45) (fun b => ?_)
    refine WL.gv rfl rfl ?_
    refine WL.ns ?_
    refine W.seq ?_
    refine W.sr ?_
    refine WL.op rfl (Op1.fieldAddr Tryd.underlying27 rfl (fun w => ⟨0, Tryd.sizeOf25 w⟩) fapi_Unit_5 (.tmp rfl)) ?_
    refine WL.op rfl (Op1.load ty25 (.tmp rfl)) ?_
    refine WL.op rfl (Op1.lenL Tryd.underlying25 (.tmp rfl)) ?_
    refine WL.op rfl (Op1.move (.int (inR64.2 (by omega)))) ?_
    refine WL.ns ?_
    refine W.block ?_
    obtain ⟨s29, hs30, hk31⟩ := bind_some hm
    clear hm
    refine W.loop (fun m (s : Int × List api_Unit × List api_Unit × ((List (unit_called × Bool)))) => m = s.2.2.1.length ∧ u.Kids = s.2.1 ++ s.2.2.1 ∧ s.1 = (s.2.1.length : Int) ∧ M.unit_alone_loop1 n u s.2.2.1 s.2.2.2 = some s29) (fun s => [(49, ((tI .i64).is s.1)), (1, (tapi_Unit.ptr u)), (3, (Mv b)), (47, ((tL tapi_Unit).is u.Kids)), (48, ((tI .i64).is (u.Kids.length : Int)))]) (fun s => [(45, Mp tunit_called tB s.2.2.2 b), (700000, Gl (tA 8 tS) 0 gv0), (700001, Gl (tA 8 (tL (tI .i64))) 1 gv1)]) u.Kids.length ((0 : Int), [], u.Kids, ([] : List (unit_called × Bool))) ⟨rfl, rfl, rfl, hs30⟩ ⟨Ent.q rfl, Ent.q rfl, Ent.q rfl, Ent.q rfl, Ent.q rfl, trivial⟩ ⟨rfl, rfl, ⟨rfl, rfl, ⟨rfl, rfl, trivial⟩⟩⟩ ?_
    rintro m ⟨i, pre, rest1, v1⟩ ⟨hn35, hxs32, hi33, hm⟩
    try dsimp only at hn35 hxs32 hi33 hm
    change W _ _ _ _ _ _ _ [(49, ((tI .i64).is i)), (1, (tapi_Unit.ptr u)), (3, (Mv b)), (47, ((tL tapi_Unit).is u.Kids)), (48, ((tI .i64).is (u.Kids.length : Int)))] [(45, Mp tunit_called tB v1 b), (700000, Gl (tA 8 tS) 0 gv0), (700001, Gl (tA 8 (tL (tI .i64))) 1 gv1)]
    refine W.lenL (s := 47) (.tmp rfl) fun hlen34 => ?_
    refine W.sr ?_
    refine WL.op rfl (Op1.ltI (.tmp rfl) (.tmp rfl)) ?_
    refine WL.ns ?_
    refine W.seq ?_
    refine W.cond (.tmp rfl) (fun hc37 => ?_) (fun hc37 => ?_)
    · have hp38 := of_decide_eq_true hc37
      obtain ⟨e, es, hrest40⟩ := range_more hxs32 hi33 hp38
      subst hrest40
      rw [M.unit_alone_loop1.eq_2] at hm
      refine W.skip ?_
      refine WN.seq ?_
      refine W.seq ?_
      refine W.block ?_
      refine W.sr ?_
      refine WL.op rfl (Op1.idxPre hxs32 hi33 Tryd.underlying25 Tryd.sizeOf27 (.tmp rfl) (.tmp rfl)) ?_
      refine WL.op rfl (Op1.load ty27 (.tmp rfl)) ?_
      refine WL.opR rfl (OpR.alloc 5 ze27) (fun b1 => ?_)
      refine WL.opU (OpR.storeB (b := b1) 5 Tryd.sizeOf27 (Cellable.is tapi_Unit e) rfl (.tmp rfl) (.tmp rfl)) (fun _ => ?_)
      refine WL.sealed (t := tapi_Unit) (u := e) 5 5 rfl rfl ?_
      refine WL.nr ?_
      refine WL.op rfl (Op1.fieldAddr Tryd.underlying27 rfl (fun w => ⟨0, Tryd.sizeOf3 w⟩) fapi_Unit_1 (.tmp rfl)) ?_
      refine WL.op rfl (Op1.load ty3 (.tmp rfl)) ?_
      refine WL.op rfl (Op1.fieldAddr Tryd.underlying27 rfl (fun w => ⟨0, Tryd.sizeOf9 w⟩) fapi_Unit_2 (.tmp rfl)) ?_
      refine WL.op rfl (Op1.load ty9 (.tmp rfl)) ?_
      refine WL.op rfl (Op1.build (s := tunit_called) (x := (⟨e.Kind, e.Label⟩ : unit_called)) zunit_called_f rfl Tryd.underlying79 (zunit_called_sz _ Tryd.underlying79) ze79 ⟨_, (tI .i64), e.Kind, _, _, rfl, Tryd.sizeOf3, (.tmp rfl), sunit_called_0, ⟨_, tS, e.Label, _, _, rfl, Tryd.sizeOf9, (.tmp rfl), sunit_called_1, rfl⟩⟩) ?_
      refine WL.opR rfl (OpR.alloc 6 ze79) (fun b2 => ?_)
      refine WL.opU (OpR.storeB (b := b2) 6 Tryd.sizeOf79 (Cellable.is tunit_called (⟨e.Kind, e.Label⟩ : unit_called)) rfl (.tmp rfl) (.tmp rfl)) (fun _ => ?_)
      refine WL.sealed (t := tunit_called) (u := (⟨e.Kind, e.Label⟩ : unit_called)) 6 6 rfl rfl ?_
      refine WL.ns ?_
      refine W.seq ?_
      refine W.sr ?_
      refine WL.op rfl (Op1.fieldAddr Tryd.underlying27 rfl (fun w => ⟨0, Tryd.sizeOf3 w⟩) fapi_Unit_1 (.tmp rfl)) ?_
      refine WL.op rfl (Op1.load ty3 (.tmp rfl)) ?_
      refine WL.op rfl (Op1.fieldAddr Tryd.underlying27 rfl (fun w => ⟨0, Tryd.sizeOf3 w⟩) fapi_Unit_1 (.tmp rfl)) ?_
      refine WL.op rfl (Op1.load ty3 (.tmp rfl)) ?_
      obtain ⟨cancon, hv41, hm⟩ := bind_some hm
      refine WL.op rfl (Op1.callG (rin := [(700001, Gl (tA 8 (tL (tI .i64))) 1 gv1)]) Tryd.call52 (unit_CanContain_spec _ _ _ _ hv41) ⟨rfl, trivial⟩ ⟨rfl, rfl, trivial⟩ ⟨(.tmp rfl), (.tmp rfl), trivial⟩) ?_
      refine WL.op rfl (Op1.notB (.tmp rfl)) ?_
      refine WL.mv rfl rfl ?_
      rcases bcases (!cancon) with hb42 | hb42
      · have hp43 := not_pos hb42
        rw [if_pos hp43] at hm
        refine WL.pass rfl rfl rfl rfl hb42 rfl rfl ?_
        refine WL.pass rfl rfl rfl rfl hb42 rfl rfl ?_
        refine WL.pass rfl rfl rfl rfl hb42 rfl rfl ?_
        refine WL.op rfl (Op1.pickT (.tmp rfl) hb42 .bool) ?_
        refine WL.ns ?_
        refine W.condT (.tmp rfl) ?_
        refine W.sr ?_
        refine WL.op rfl (Op1.assign .bool) ?_
        refine WL.ns ?_
        have hr44 := Option.some.inj hm
        clear hm
        subst hr44
        have hm := hk31
        try dsimp only at hm
        cases hm
        exact W.ret1 () rfl (.tmp rfl) trivial
      · have hp43 := not_neg hb42
        rw [if_neg hp43] at hm
        refine WL.run rfl rfl rfl rfl hb42 rfl rfl (Op1.move (.tmp rfl)) ?_
        refine WL.run rfl rfl rfl rfl hb42 rfl rfl (Op1.load ty79 (.tmp rfl)) ?_
        refine WL.run rfl rfl rfl rfl hb42 rfl rfl (Op1.lookup 45 Tryd.underlying77 kt79 ze4 rfl (.tmp rfl) (.tmp rfl)) ?_
        refine WL.op rfl (Op1.pickF (.tmp rfl) hb42 (.tmp rfl)) ?_
        refine WL.ns ?_
        refine W.cond (.tmp rfl) (fun hc45 => ?_) (fun hc45 => ?_)
        · have hp46 := hc45
          rw [if_pos hp46] at hm
          refine W.sr ?_
          refine WL.op rfl (Op1.assign .bool) ?_
          refine WL.ns ?_
          have hr47 := Option.some.inj hm
          clear hm
          subst hr47
          have hm := hk31
          try dsimp only at hm
          cases hm
          exact W.ret1 () rfl (.tmp rfl) trivial
        · have hp46 := ne_of_false hc45
          rw [if_neg hp46] at hm
          refine W.skip ?_
          refine WN.seq ?_
          refine W.region ?_
          refine WL.mv rfl rfl ?_
          refine WL.op rfl (Op1.load ty79 (.tmp rfl)) ?_
          refine WL.opU (OpR.mapUpdate (b := b) (v := true) 45 Tryd.underlying77 kt79 rfl (.tmp rfl) (.tmp rfl) .bool) (fun _ => ?_)
          refine WL.nil ?_
          refine WN.block ?_
          refine WN.seq ?_
          refine W.region ?_
          refine WL.op rfl (Op1.addI (.tmp rfl) (.int (inR64.2 (by omega))) (range_inR hi33 hp38 hlen34)) ?_
          refine WL.mv rfl rfl ?_
          refine WL.nil ?_
          exact WN.again es.length (i + 1, pre ++ [e], es, mset v1 (⟨e.Kind, e.Label⟩ : unit_called) true) (range_lt hn35) ⟨rfl, range_step hxs32, range_idx hi33, hm⟩ ⟨Ent.q rfl, Ent.q rfl, Ent.q rfl, Ent.q rfl, Ent.q rfl, trivial⟩ ⟨rfl, rfl, ⟨rfl, rfl, ⟨rfl, rfl, trivial⟩⟩⟩
    · have hrest40 := range_end hxs32 hi33 (of_decide_eq_false hc37)
      subst hrest40
      rw [M.unit_alone_loop1.eq_1] at hm
      refine W.exit rfl ?_
      have hr48 := Option.some.inj hm
      clear hm
      subst hr48
      have hm := hk31
      try dsimp only at hm
      refine WN.seq ?_
      refine W.sr ?_
      refine WL.op rfl (Op1.fieldAddr Tryd.underlying27 rfl (fun w => ⟨0, Tryd.sizeOf25 w⟩) fapi_Unit_5 (.tmp rfl)) ?_
      refine WL.op rfl (Op1.load ty25 (.tmp rfl)) ?_
      refine WL.op rfl (Op1.lenL Tryd.underlying25 (.tmp rfl)) ?_
      refine WL.op rfl (Op1.leI (.tmp rfl) (.int (inR64.2 (by omega)))) ?_
      refine WL.gv rfl rfl ?_
      refine WL.ns ?_
      cases hm
      exact W.ret1 () rfl (.tmp rfl) trivial
  · have hm := hs2
    clear hs2
    refine W.sr ?_
    refine WL.op rfl (Op1.fieldAddr Tryd.underlying27 rfl (fun w => ⟨0, Tryd.sizeOf3 w⟩) fapi_Unit_1 (.tmp rfl)) ?_
    refine WL.op rfl (Op1.load ty3 (.tmp rfl)) ?_
    refine WL.op rfl (Op1.eqI (.tmp rfl) (.int (inR64.2 (by omega)))) ?_
    refine WL.ns ?_
    refine W.cond (.tmp rfl) (fun hc4 => ?_) (fun hc4 => ?_)
    · have hp5 := of_decide_eq_true hc4
      rw [if_pos hp5] at hm
      refine W.sr ?_
      refine WL.op rfl (Op1.fieldAddr Tryd.underlying27 rfl (fun w => ⟨0, Tryd.sizeOf9 w⟩) fapi_Unit_2 (.tmp rfl)) ?_
      refine WL.op rfl (Op1.load ty9 (.tmp rfl)) ?_
      refine WL.op rfl (Op1.neS (.tmp rfl) (.str rfl (by decide))) ?_
      refine WL.mv rfl rfl ?_
      rcases bcases (u.Label != ([] : Str)) with hb6 | hb6
      · have hp7 := hb6
        rw [if_pos hp7] at hm
        refine WL.pass rfl rfl rfl rfl hb6 rfl rfl ?_
        refine WL.pass rfl rfl rfl rfl hb6 rfl rfl ?_
        refine WL.pass rfl rfl rfl rfl hb6 rfl rfl ?_
        refine WL.pass rfl rfl rfl rfl hb6 rfl rfl ?_
        refine WL.pass rfl rfl rfl rfl hb6 rfl rfl ?_
        refine WL.pass rfl rfl rfl rfl hb6 rfl rfl ?_
        refine WL.pass rfl rfl rfl rfl hb6 rfl rfl ?_
        refine WL.pass rfl rfl rfl rfl hb6 rfl rfl ?_
        refine WL.op rfl (Op1.pickT (.tmp rfl) hb6 .bool) ?_
        refine WL.ns ?_
        refine W.condT (.tmp rfl) ?_
        refine W.sr ?_
        refine WL.op rfl (Op1.assign .bool) ?_
        refine WL.ns ?_
        have hr8 := Option.some.inj hm
        clear hm
        subst hr8
        have hm := hk3
        try dsimp only at hm
        cases hm
        exact W.ret1 () rfl (.tmp rfl) trivial
      · have hp7 := ne_of_false hb6
        rw [if_neg hp7] at hm
        refine WL.run rfl rfl rfl rfl hb6 rfl rfl (Op1.fieldAddr Tryd.underlying27 rfl (fun w => ⟨0, Tryd.sizeOf24 w⟩) fapi_Unit_3 (.tmp rfl)) ?_
        refine WL.run rfl rfl rfl rfl hb6 rfl rfl (Op1.load ty24 (.tmp rfl)) ?_
        refine WL.run rfl rfl rfl rfl hb6 rfl rfl (Op1.lenL Tryd.underlying24 (.tmp rfl)) ?_
        refine WL.run rfl rfl rfl rfl hb6 rfl rfl (Op1.fieldAddr Tryd.underlying27 rfl (fun w => ⟨0, Tryd.sizeOf24 w⟩) fapi_Unit_4 (.tmp rfl)) ?_
        refine WL.run rfl rfl rfl rfl hb6 rfl rfl (Op1.load ty24 (.tmp rfl)) ?_
        refine WL.run rfl rfl rfl rfl hb6 rfl rfl (Op1.lenL Tryd.underlying24 (.tmp rfl)) ?_
        obtain ⟨v, hv9, hm⟩ := bind_some hm
        refine WL.run rfl rfl rfl rfl hb6 rfl rfl (Op1.addC hv9 (.tmp rfl) (.tmp rfl)) ?_
        refine WL.run rfl rfl rfl rfl hb6 rfl rfl (Op1.gtI (.tmp rfl) (.int (inR64.2 (by omega)))) ?_
        refine WL.op rfl (Op1.pickF (.tmp rfl) hb6 (.tmp rfl)) ?_
        refine WL.ns ?_
        refine W.cond (.tmp rfl) (fun hc10 => ?_) (fun hc10 => ?_)
        · have hp11 := of_decide_eq_true hc10
          rw [if_pos hp11] at hm
          refine W.sr ?_
          refine WL.op rfl (Op1.assign .bool) ?_
          refine WL.ns ?_
          have hr12 := Option.some.inj hm
          clear hm
          subst hr12
          have hm := hk3
          try dsimp only at hm
          cases hm
          exact W.ret1 () rfl (.tmp rfl) trivial
        · have hp11 := of_decide_eq_false hc10
          rw [if_neg hp11] at hm
          refine W.skip ?_
          exact WN.meet () (Option.some.inj hm) ⟨Ent.q rfl, trivial⟩ ⟨rfl, rfl, ⟨rfl, rfl, trivial⟩⟩
    · have hp5 := of_decide_eq_false hc4
      rw [if_neg hp5] at hm
      refine W.sr ?_
      refine WL.op rfl (Op1.fieldAddr Tryd.underlying27 rfl (fun w => ⟨0, Tryd.sizeOf3 w⟩) fapi_Unit_1 (.tmp rfl)) ?_
      refine WL.op rfl (Op1.load ty3 (.tmp rfl)) ?_
      obtain ⟨kindna, hv13, hm⟩ := bind_some hm
      refine WL.op rfl (Op1.callG (rin := [(700000, Gl (tA 8 tS) 0 gv0)]) Tryd.call50 (unit_KindName_spec _ _ hv13) ⟨rfl, trivial⟩ ⟨rfl, rfl, trivial⟩ ⟨(.tmp rfl), trivial⟩) ?_
      refine WL.op rfl (Op1.eqS (.tmp rfl) (.str rfl (by decide))) ?_
      refine WL.mv rfl rfl ?_
      rcases bcases (kindna == ([] : Str)) with hb14 | hb14
      · have hp15 := hb14
        rw [if_pos hp15] at hm
        refine WL.pass rfl rfl rfl rfl hb14 rfl rfl ?_
        refine WL.pass rfl rfl rfl rfl hb14 rfl rfl ?_
        refine WL.pass rfl rfl rfl rfl hb14 rfl rfl ?_
        refine WL.pass rfl rfl rfl rfl hb14 rfl rfl ?_
        refine WL.op rfl (Op1.pickT (.tmp rfl) hb14 .bool) ?_
        refine WL.mv rfl rfl ?_
        refine WL.pass rfl rfl rfl rfl rfl rfl rfl ?_
        refine WL.pass rfl rfl rfl rfl rfl rfl rfl ?_
        refine WL.pass rfl rfl rfl rfl rfl rfl rfl ?_
        refine WL.pass rfl rfl rfl rfl rfl rfl rfl ?_
        refine WL.op rfl (Op1.pickT (.tmp rfl) rfl .bool) ?_
        refine WL.mv rfl rfl ?_
        refine WL.pass rfl rfl rfl rfl rfl rfl rfl ?_
        refine WL.pass rfl rfl rfl rfl rfl rfl rfl ?_
        refine WL.pass rfl rfl rfl rfl rfl rfl rfl ?_
        refine WL.pass rfl rfl rfl rfl rfl rfl rfl ?_
        refine WL.op rfl (Op1.pickT (.tmp rfl) rfl .bool) ?_
        refine WL.ns ?_
        refine W.condT (.tmp rfl) ?_
        refine W.sr ?_
        refine WL.op rfl (Op1.assign .bool) ?_
        refine WL.ns ?_
        have hr16 := Option.some.inj hm
        clear hm
        subst hr16
        have hm := hk3
        try dsimp only at hm
        cases hm
        exact W.ret1 () rfl (.tmp rfl) trivial
      · have hp15 := ne_of_false hb14
        rw [if_neg hp15] at hm
        refine WL.run rfl rfl rfl rfl hb14 rfl rfl (Op1.fieldAddr Tryd.underlying27 rfl (fun w => ⟨0, Tryd.sizeOf9 w⟩) fapi_Unit_2 (.tmp rfl)) ?_
        refine WL.run rfl rfl rfl rfl hb14 rfl rfl (Op1.load ty9 (.tmp rfl)) ?_
        obtain ⟨valid, hv17, hm⟩ := bind_some hm
        refine WL.run rfl rfl rfl rfl hb14 rfl rfl (Op1.call Tryd.call37 (label_Valid_spec _ _ _ hv17) ⟨(.tmp rfl), trivial⟩) ?_
        refine WL.run rfl rfl rfl rfl hb14 rfl rfl (Op1.notB (.tmp rfl)) ?_
        refine WL.op rfl (Op1.pickF (.tmp rfl) hb14 (.tmp rfl)) ?_
        refine WL.mv rfl rfl ?_
        rcases bcases (!valid) with hb18 | hb18
        · have hp19 := not_pos hb18
          rw [if_pos hp19] at hm
          refine WL.pass rfl rfl rfl rfl hb18 rfl rfl ?_
          refine WL.pass rfl rfl rfl rfl hb18 rfl rfl ?_
          refine WL.pass rfl rfl rfl rfl hb18 rfl rfl ?_
          refine WL.pass rfl rfl rfl rfl hb18 rfl rfl ?_
          refine WL.op rfl (Op1.pickT (.tmp rfl) hb18 .bool) ?_
          refine WL.mv rfl rfl ?_
          refine WL.pass rfl rfl rfl rfl rfl rfl rfl ?_
          refine WL.pass rfl rfl rfl rfl rfl rfl rfl ?_
          refine WL.pass rfl rfl rfl rfl rfl rfl rfl ?_
          refine WL.pass rfl rfl rfl rfl rfl rfl rfl ?_
          refine WL.op rfl (Op1.pickT (.tmp rfl) rfl .bool) ?_
          refine WL.ns ?_
          refine W.condT (.tmp rfl) ?_
          refine W.sr ?_
          refine WL.op rfl (Op1.assign .bool) ?_
          refine WL.ns ?_
          have hr20 := Option.some.inj hm
          clear hm
          subst hr20
          have hm := hk3
          try dsimp only at hm
          cases hm
          exact W.ret1 () rfl (.tmp rfl) trivial
        · have hp19 := not_neg hb18
          rw [if_neg hp19] at hm
          refine WL.run rfl rfl rfl rfl hb18 rfl rfl (Op1.fieldAddr Tryd.underlying27 rfl (fun w => ⟨0, Tryd.sizeOf24 w⟩) fapi_Unit_3 (.tmp rfl)) ?_
          refine WL.run rfl rfl rfl rfl hb18 rfl rfl (Op1.load ty24 (.tmp rfl)) ?_
          obtain ⟨row, hv21, hm⟩ := bind_some hm
          refine WL.run rfl rfl rfl rfl hb18 rfl rfl (Op1.call Tryd.call51 (unit_row_spec _ _ _ hv21) ⟨(.tmp rfl), trivial⟩) ?_
          refine WL.run rfl rfl rfl rfl hb18 rfl rfl (Op1.notB (.tmp rfl)) ?_
          refine WL.op rfl (Op1.pickF (.tmp rfl) hb18 (.tmp rfl)) ?_
          refine WL.mv rfl rfl ?_
          rcases bcases (!row) with hb22 | hb22
          · have hp23 := not_pos hb22
            rw [if_pos hp23] at hm
            refine WL.pass rfl rfl rfl rfl hb22 rfl rfl ?_
            refine WL.pass rfl rfl rfl rfl hb22 rfl rfl ?_
            refine WL.pass rfl rfl rfl rfl hb22 rfl rfl ?_
            refine WL.pass rfl rfl rfl rfl hb22 rfl rfl ?_
            refine WL.op rfl (Op1.pickT (.tmp rfl) hb22 .bool) ?_
            refine WL.ns ?_
            refine W.condT (.tmp rfl) ?_
            refine W.sr ?_
            refine WL.op rfl (Op1.assign .bool) ?_
            refine WL.ns ?_
            have hr24 := Option.some.inj hm
            clear hm
            subst hr24
            have hm := hk3
            try dsimp only at hm
            cases hm
            exact W.ret1 () rfl (.tmp rfl) trivial
          · have hp23 := not_neg hb22
            rw [if_neg hp23] at hm
            refine WL.run rfl rfl rfl rfl hb22 rfl rfl (Op1.fieldAddr Tryd.underlying27 rfl (fun w => ⟨0, Tryd.sizeOf24 w⟩) fapi_Unit_4 (.tmp rfl)) ?_
            refine WL.run rfl rfl rfl rfl hb22 rfl rfl (Op1.load ty24 (.tmp rfl)) ?_
            obtain ⟨row1, hv25, hm⟩ := bind_some hm
            refine WL.run rfl rfl rfl rfl hb22 rfl rfl (Op1.call Tryd.call51 (unit_row_spec _ _ _ hv25) ⟨(.tmp rfl), trivial⟩) ?_
            refine WL.run rfl rfl rfl rfl hb22 rfl rfl (Op1.notB (.tmp rfl)) ?_
            refine WL.op rfl (Op1.pickF (.tmp rfl) hb22 (.tmp rfl)) ?_
            refine WL.ns ?_
            refine W.cond (.tmp rfl) (fun hc26 => ?_) (fun hc26 => ?_)
            · have hp27 := not_pos hc26
              rw [if_pos hp27] at hm
              refine W.sr ?_
              refine WL.op rfl (Op1.assign .bool) ?_
              refine WL.ns ?_
              have hr28 := Option.some.inj hm
              clear hm
              subst hr28
              have hm := hk3
              try dsimp only at hm
              cases hm
              exact W.ret1 () rfl (.tmp rfl) trivial
            · have hp27 := not_neg hc26
              rw [if_neg hp27] at hm
              refine W.skip ?_
              exact WN.meet () (Option.some.inj hm) ⟨Ent.q rfl, trivial⟩ ⟨rfl, rfl, ⟨rfl, rfl, trivial⟩⟩

theorem unit_every_i0_spec : ∀ (n : Nat) (u : api_Unit) (r : Bool), M.unit_every_i0 n u = some r → FSpecR Tryd.prog 28 [(tapi_Unit.is u), (cloA 29 [])] [(700000, Gl (tA 8 tS) 0 gv0), (700001, Gl (tA 8 (tL (tI .i64))) 1 gv1)] (fun kx : Unit => (tB.is r)) (fun kx : Unit => [(700000, Gl (tA 8 tS) 0 gv0), (700001, Gl (tA 8 (tL (tI .i64))) 1 gv1)]) := by
  intro n
  induction n with
  | zero => intro u r hm; cases hm
  | succ n ih =>
    intro u r hm
    rw [M.unit_every_i0.eq_2] at hm
    refine FSpecR.of Tryd.func28 rfl rfl rfl (fun g0 => ?_)
    refine W.sr ?_
    refine WL.op rfl (Op1.box (.tmp rfl)) ?_
    refine WL.op rfl (Op1.assign .bool) ?_
    refine WL.ns ?_
    refine W.seq ?_
    refine W.sr ?_
    refine WL.mv rfl rfl ?_
    refine WL.op rfl (Op1.load ty27 (.tmp rfl)) ?_
    obtain ⟨alone, hv1, hm⟩ := bind_some hm
    refine WL.op rfl (Op1.callCloG (As := [tapi_Unit.is u]) (rin := [(700000, Gl (tA 8 tS) 0 gv0), (700001, Gl (tA 8 (tL (tI .i64))) 1 gv1)]) Tryd.call29 (.tmp rfl) (unit_alone_spec _ _ _ hv1) ⟨rfl, rfl, trivial⟩ ⟨rfl, rfl, ⟨rfl, rfl, trivial⟩⟩ ⟨(.tmp rfl), trivial⟩) ?_
    refine WL.op rfl (Op1.notB (.tmp rfl)) ?_
    refine WL.ns ?_
    refine W.cond (.tmp rfl) (fun hc2 => ?_) (fun hc2 => ?_)
    · have hp3 := not_pos hc2
      rw [if_pos hp3] at hm
      refine W.sr ?_
      refine WL.op rfl (Op1.assign .bool) ?_
      refine WL.ns ?_
      cases hm
      exact W.ret1 () rfl (.tmp rfl) ⟨rfl, rfl, ⟨rfl, rfl, trivial⟩⟩
    · have hp3 := not_neg hc2
      rw [if_neg hp3] at hm
      refine W.skip ?_
      refine WN.seq ?_
      refine W.seq ?_
      refine W.sr ?_
      refine WL.op rfl (Op1.fieldAddr Tryd.underlying27 rfl (fun w => ⟨0, Tryd.sizeOf25 w⟩) fapi_Unit_5 (.tmp rfl)) ?_
      refine WL.op rfl (Op1.load ty25 (.tmp rfl)) ?_
      refine WL.op rfl (Op1.lenL Tryd.underlying25 (.tmp rfl)) ?_
      refine WL.op rfl (Op1.move (.int (inR64.2 (by omega)))) ?_
      refine WL.ns ?_
      refine W.block ?_
      obtain ⟨s4, hs5, hk6⟩ := bind_some hm
      clear hm
      refine W.loop (fun m (s : Int × List api_Unit × List api_Unit × Unit) => m = s.2.2.1.length ∧ u.Kids = s.2.1 ++ s.2.2.1 ∧ s.1 = (s.2.1.length : Int) ∧ M.unit_every_i0_loop1 (M.unit_every_i0 n) s.2.2.1 = some s4) (fun s => [(14, ((tI .i64).is s.1)), (1, (cloA 29 [])), (12, ((tL tapi_Unit).is u.Kids)), (13, ((tI .i64).is (u.Kids.length : Int)))]) (fun s => [(700000, Gl (tA 8 tS) 0 gv0), (700001, Gl (tA 8 (tL (tI .i64))) 1 gv1)]) u.Kids.length ((0 : Int), [], u.Kids, ()) ⟨rfl, rfl, rfl, hs5⟩ ⟨Ent.q rfl, Ent.q rfl, Ent.q rfl, Ent.q rfl, trivial⟩ ⟨rfl, rfl, ⟨rfl, rfl, trivial⟩⟩ ?_
      rintro m ⟨i, pre, rest1, _⟩ ⟨hn10, hxs7, hi8, hm⟩
      try dsimp only at hn10 hxs7 hi8 hm
      change W _ _ _ _ _ _ _ [(14, ((tI .i64).is i)), (1, (cloA 29 [])), (12, ((tL tapi_Unit).is u.Kids)), (13, ((tI .i64).is (u.Kids.length : Int)))] [(700000, Gl (tA 8 tS) 0 gv0), (700001, Gl (tA 8 (tL (tI .i64))) 1 gv1)]
      refine W.lenL (s := 12) (.tmp rfl) fun hlen9 => ?_
      refine W.sr ?_
      refine WL.op rfl (Op1.ltI (.tmp rfl) (.tmp rfl)) ?_
      refine WL.ns ?_
      refine W.seq ?_
      refine W.cond (.tmp rfl) (fun hc12 => ?_) (fun hc12 => ?_)
      · have hp13 := of_decide_eq_true hc12
        obtain ⟨e, es, hrest15⟩ := range_more hxs7 hi8 hp13
        subst hrest15
        rw [M.unit_every_i0_loop1.eq_2] at hm
        refine W.skip ?_
        refine WN.seq ?_
        refine W.seq ?_
        refine W.block ?_
        refine W.sr ?_
        refine WL.op rfl (Op1.idxPre hxs7 hi8 Tryd.underlying25 Tryd.sizeOf27 (.tmp rfl) (.tmp rfl)) ?_
        refine WL.op rfl (Op1.load ty27 (.tmp rfl)) ?_
        refine WL.opR rfl (OpR.alloc 6 ze27) (fun b => ?_)
        refine WL.opU (OpR.storeB (b := b) 6 Tryd.sizeOf27 (Cellable.is tapi_Unit e) rfl (.tmp rfl) (.tmp rfl)) (fun _ => ?_)
        refine WL.sealed (t := tapi_Unit) (u := e) 6 6 rfl rfl ?_
        refine WL.nr ?_
        refine WL.op rfl (Op1.load ty27 (.tmp rfl)) ?_
        refine WL.mv rfl rfl ?_
        obtain ⟨every, hv16, hm⟩ := bind_some hm
        refine WL.op rfl (Op1.callG (rin := [(700000, Gl (tA 8 tS) 0 gv0), (700001, Gl (tA 8 (tL (tI .i64))) 1 gv1)]) Tryd.call28 (ih _ _ hv16) ⟨rfl, rfl, trivial⟩ ⟨rfl, rfl, ⟨rfl, rfl, trivial⟩⟩ ⟨(.tmp rfl), (.tmp rfl), trivial⟩) ?_
        refine WL.op rfl (Op1.notB (.tmp rfl)) ?_
        refine WL.ns ?_
        refine W.cond (.tmp rfl) (fun hc17 => ?_) (fun hc17 => ?_)
        · have hp18 := not_pos hc17
          rw [if_pos hp18] at hm
          refine W.sr ?_
          refine WL.op rfl (Op1.assign .bool) ?_
          refine WL.ns ?_
          have hr19 := Option.some.inj hm
          clear hm
          subst hr19
          have hm := hk6
          try dsimp only at hm
          cases hm
          exact W.ret1 () rfl (.tmp rfl) ⟨rfl, rfl, ⟨rfl, rfl, trivial⟩⟩
        · have hp18 := not_neg hc17
          rw [if_neg hp18] at hm
          refine W.skip ?_
          refine WN.block ?_
          refine WN.seq ?_
          refine W.region ?_
          refine WL.op rfl (Op1.addI (.tmp rfl) (.int (inR64.2 (by omega))) (range_inR hi8 hp13 hlen9)) ?_
          refine WL.mv rfl rfl ?_
          refine WL.nil ?_
          exact WN.again es.length (i + 1, pre ++ [e], es, ()) (range_lt hn10) ⟨rfl, range_step hxs7, range_idx hi8, hm⟩ ⟨Ent.q rfl, Ent.q rfl, Ent.q rfl, Ent.q rfl, trivial⟩ ⟨rfl, rfl, ⟨rfl, rfl, trivial⟩⟩
      · have hrest15 := range_end hxs7 hi8 (of_decide_eq_false hc12)
        subst hrest15
        rw [M.unit_every_i0_loop1.eq_1] at hm
        refine W.exit rfl ?_
        have hr20 := Option.some.inj hm
        clear hm
        subst hr20
        have hm := hk6
        try dsimp only at hm
        refine WN.seq ?_
        refine W.sr ?_
        refine WL.op rfl (Op1.assign .bool) ?_
        refine WL.ns ?_
        cases hm
        exact W.ret1 () rfl (.tmp rfl) ⟨rfl, rfl, ⟨rfl, rfl, trivial⟩⟩

theorem unit_Depth_spec : ∀ (n : Nat) (u : api_Unit) (r : Int), M.unit_Depth n u = some r → FSpec Tryd.prog 30 [(tapi_Unit.is u)] ((tI .i64).is r) := by
  intro n
  induction n with
  | zero => intro u r hm; cases hm
  | succ n ih =>
    intro u r hm
    rw [M.unit_Depth.eq_2] at hm
    refine FSpec.of Tryd.func30 rfl rfl rfl (fun g0 => ?_)
    refine W.sr ?_
    refine WL.op rfl (Op1.box (.tmp rfl)) ?_
    refine WL.op rfl (Op1.assign (.int (inR64.2 (by omega)))) ?_
    refine WL.nr ?_
    refine WL.op rfl (Op1.assign (.int (inR64.2 (by omega)))) ?_
    refine WL.ns ?_
    refine W.seq ?_
    refine W.sr ?_
    refine WL.op rfl (Op1.fieldAddr Tryd.underlying27 rfl (fun w => ⟨0, Tryd.sizeOf25 w⟩) fapi_Unit_5 (.tmp rfl)) ?_
    refine WL.op rfl (Op1.load ty25 (.tmp rfl)) ?_
    refine WL.op rfl (Op1.lenL Tryd.underlying25 (.tmp rfl)) ?_
    refine WL.op rfl (Op1.move (.int (inR64.2 (by omega)))) ?_
    refine WL.ns ?_
    refine W.block ?_
    obtain ⟨s1, hs2, hk3⟩ := bind_some hm
    clear hm
    refine W.loop (fun m (s : Int × List api_Unit × List api_Unit × Int) => m = s.2.2.1.length ∧ u.Kids = s.2.1 ++ s.2.2.1 ∧ s.1 = (s.2.1.length : Int) ∧ M.unit_Depth_loop1 (M.unit_Depth n) s.2.2.1 s.2.2.2 = some s1) (fun s => [(9, ((tI .i64).is s.1)), (3, ((tI .i64).is s.2.2.2)), (7, ((tL tapi_Unit).is u.Kids)), (8, ((tI .i64).is (u.Kids.length : Int)))]) (fun s => []) u.Kids.length ((0 : Int), [], u.Kids, (0 : Int)) ⟨rfl, rfl, rfl, hs2⟩ ⟨Ent.q rfl, Ent.q rfl, Ent.q rfl, Ent.q rfl, trivial⟩ trivial ?_
    rintro m ⟨i, pre, rest1, deep⟩ ⟨hn7, hxs4, hi5, hm⟩
    try dsimp only at hn7 hxs4 hi5 hm
    change W _ _ _ _ _ _ _ [(9, ((tI .i64).is i)), (3, ((tI .i64).is deep)), (7, ((tL tapi_Unit).is u.Kids)), (8, ((tI .i64).is (u.Kids.length : Int)))] []
    refine W.lenL (s := 7) (.tmp rfl) fun hlen6 => ?_
    refine W.sr ?_
    refine WL.op rfl (Op1.ltI (.tmp rfl) (.tmp rfl)) ?_
    refine WL.ns ?_
    refine W.seq ?_
    refine W.cond (.tmp rfl) (fun hc9 => ?_) (fun hc9 => ?_)
    · have hp10 := of_decide_eq_true hc9
      obtain ⟨e, es, hrest12⟩ := range_more hxs4 hi5 hp10
      subst hrest12
      rw [M.unit_Depth_loop1.eq_2] at hm
      refine W.skip ?_
      refine WN.seq ?_
      refine W.seq ?_
      refine W.block ?_
      refine W.sr ?_
      refine WL.op rfl (Op1.idxPre hxs4 hi5 Tryd.underlying25 Tryd.sizeOf27 (.tmp rfl) (.tmp rfl)) ?_
      refine WL.op rfl (Op1.load ty27 (.tmp rfl)) ?_
      refine WL.opR rfl (OpR.alloc 5 ze27) (fun b => ?_)
      refine WL.opU (OpR.storeB (b := b) 5 Tryd.sizeOf27 (Cellable.is tapi_Unit e) rfl (.tmp rfl) (.tmp rfl)) (fun _ => ?_)
      refine WL.sealed (t := tapi_Unit) (u := e) 5 5 rfl rfl ?_
      refine WL.nr1 ?_
      refine WL.mv rfl rfl ?_
      refine WL.op rfl (Op1.load ty27 (.tmp rfl)) ?_
      obtain ⟨depth, hv13, hm⟩ := bind_some hm
      refine WL.op rfl (Op1.call Tryd.call30 (ih _ _ hv13) ⟨(.tmp rfl), trivial⟩) ?_
      obtain ⟨v, hv14, hm⟩ := bind_some hm
      refine WL.op rfl (Op1.addC hv14 (.int (inR64.2 (by omega))) (.tmp rfl)) ?_
      refine WL.op rfl (Op1.maxI (.tmp rfl) (.tmp rfl)) ?_
      refine WL.gv rfl rfl ?_
      refine WL.nil ?_
      refine WN.block ?_
      refine WN.seq ?_
      refine W.region ?_
      refine WL.op rfl (Op1.addI (.tmp rfl) (.int (inR64.2 (by omega))) (range_inR hi5 hp10 hlen6)) ?_
      refine WL.mv rfl rfl ?_
      refine WL.nil ?_
      exact WN.again es.length (i + 1, pre ++ [e], es, max deep v) (range_lt hn7) ⟨rfl, range_step hxs4, range_idx hi5, hm⟩ ⟨Ent.q rfl, Ent.q rfl, Ent.q rfl, Ent.q rfl, trivial⟩ trivial
    · have hrest12 := range_end hxs4 hi5 (of_decide_eq_false hc9)
      subst hrest12
      rw [M.unit_Depth_loop1.eq_1] at hm
      refine W.exit rfl ?_
      have hr15 := Option.some.inj hm
      clear hm
      subst hr15
      have hm := hk3
      try dsimp only at hm
      refine WN.seq ?_
      refine W.sr ?_
      refine WL.mv rfl rfl ?_
      refine WL.gv rfl rfl ?_
      refine WL.ns ?_
      cases hm
      exact W.ret1 () rfl (.tmp rfl) trivial

theorem unit_Count_1_spec (a : api_Unit) (c : Int) (b : Nat) (r : Bool × Int) (hm : M.unit_Count_1 a c = some r) : FSpecR Tryd.prog 53 [(tapi_Unit.is a), (Bp b 0)] [(1, (Bx 1 false 3 ((tI .i64).is c) b))] (fun kx : Unit => (tB.is r.1)) (fun kx : Unit => [(1, (Bx 1 false 3 ((tI .i64).is r.2) b))]) := by
  unfold M.unit_Count_1 at hm
  refine FSpecR.of Tryd.func53 rfl rfl rfl (fun g0 => ?_)
  refine W.sr ?_
  refine WL.op rfl (Op1.box (.tmp rfl)) ?_
  refine WL.op rfl (Op1.assign .bool) ?_
  refine WL.nr ?_
  refine WL.op rfl (Op1.loadB 1 Tryd.isAgg3 Tryd.sizeOf3 rfl (.tmp rfl)) ?_
  obtain ⟨v, hv1, hm⟩ := bind_some hm
  refine WL.op rfl (Op1.addC hv1 (.tmp rfl) (.int (inR64.2 (by omega)))) ?_
  refine WL.opU (OpR.storeB (b := b) 1 Tryd.sizeOf3 (Cellable.is (tI .i64) v) rfl (.tmp rfl) (.tmp rfl)) (fun _ => ?_)
  refine WL.nr ?_
  refine WL.op rfl (Op1.assign .bool) ?_
  refine WL.ns ?_
  cases hm
  exact W.ret1 () rfl (.tmp rfl) ⟨rfl, rfl, trivial⟩

theorem unit_every_i1_spec : ∀ (n : Nat) (u : api_Unit) (c : Int) (b : Nat) (r : Bool × Int), M.unit_every_i1 n u c = some r → FSpecR Tryd.prog 28 [(tapi_Unit.is u), (cloA 53 [(Bp b 0)])] [(500100, (Bx 1 false 3 ((tI .i64).is c) b))] (fun kx : Unit => (tB.is r.1)) (fun kx : Unit => [(500100, (Bx 1 false 3 ((tI .i64).is r.2) b))]) := by
  intro n
  induction n with
  | zero => intro u c b r hm; cases hm
  | succ n ih =>
    intro u c b r hm
    rw [M.unit_every_i1.eq_2] at hm
    refine FSpecR.of Tryd.func28 rfl rfl rfl (fun g0 => ?_)
    refine W.sr ?_
    refine WL.op rfl (Op1.box (.tmp rfl)) ?_
    refine WL.op rfl (Op1.assign .bool) ?_
    refine WL.ns ?_
    refine W.seq ?_
    refine W.sr ?_
    refine WL.mv rfl rfl ?_
    refine WL.op rfl (Op1.load ty27 (.tmp rfl)) ?_
    obtain ⟨⟨v1_, w⟩, hv1, hm⟩ := bind_some hm
    dsimp only at hm
    refine WL.weakR (res' := [(500100, (Bx 1 false 3 ((tI .i64).is c) b))]) ⟨rfl, rfl, trivial⟩ ?_
    refine WL.opR rfl (OpR.callClo (us := [500100]) (A := fun kx : Unit => (tB.is v1_)) (As := [tapi_Unit.is u]) Tryd.call53 (.tmp rfl) (FSpecR.keys (rin' := [(500100, (Bx 1 false 3 ((tI .i64).is c) b))]) (out' := fun kx : Unit => [(500100, (Bx 1 false 3 ((tI .i64).is w) b))]) (unit_Count_1_spec _ _ _ _ hv1) rfl (fun _ => rfl)) rfl ⟨(.tmp rfl), trivial⟩) (fun _ => ?_)
    refine WL.op rfl (Op1.notB (.tmp rfl)) ?_
    refine WL.ns ?_
    refine W.cond (.tmp rfl) (fun hc2 => ?_) (fun hc2 => ?_)
    · have hp3 := not_pos hc2
      rw [if_pos hp3] at hm
      refine W.sr ?_
      refine WL.op rfl (Op1.assign .bool) ?_
      refine WL.ns ?_
      cases hm
      exact W.ret1 () rfl (.tmp rfl) ⟨rfl, rfl, trivial⟩
    · have hp3 := not_neg hc2
      rw [if_neg hp3] at hm
      refine W.skip ?_
      refine WN.seq ?_
      refine W.seq ?_
      refine W.sr ?_
      refine WL.op rfl (Op1.fieldAddr Tryd.underlying27 rfl (fun w => ⟨0, Tryd.sizeOf25 w⟩) fapi_Unit_5 (.tmp rfl)) ?_
      refine WL.op rfl (Op1.load ty25 (.tmp rfl)) ?_
      refine WL.op rfl (Op1.lenL Tryd.underlying25 (.tmp rfl)) ?_
      refine WL.op rfl (Op1.move (.int (inR64.2 (by omega)))) ?_
      refine WL.ns ?_
      refine W.block ?_
      obtain ⟨s4, hs5, hk6⟩ := bind_some hm
      clear hm
      refine W.loop (fun m (s : Int × List api_Unit × List api_Unit × Int) => m = s.2.2.1.length ∧ u.Kids = s.2.1 ++ s.2.2.1 ∧ s.1 = (s.2.1.length : Int) ∧ M.unit_every_i1_loop1 (M.unit_every_i1 n) s.2.2.1 s.2.2.2 = some s4) (fun s => [(14, ((tI .i64).is s.1)), (1, (cloA 53 [(Bp b 0)])), (12, ((tL tapi_Unit).is u.Kids)), (13, ((tI .i64).is (u.Kids.length : Int)))]) (fun s => [(500100, (Bx 1 false 3 ((tI .i64).is s.2.2.2) b))]) u.Kids.length ((0 : Int), [], u.Kids, w) ⟨rfl, rfl, rfl, hs5⟩ ⟨Ent.q rfl, Ent.q rfl, Ent.q rfl, Ent.q rfl, trivial⟩ ⟨rfl, rfl, trivial⟩ ?_
      rintro m ⟨i, pre, rest1, v⟩ ⟨hn10, hxs7, hi8, hm⟩
      try dsimp only at hn10 hxs7 hi8 hm
      change W _ _ _ _ _ _ _ [(14, ((tI .i64).is i)), (1, (cloA 53 [(Bp b 0)])), (12, ((tL tapi_Unit).is u.Kids)), (13, ((tI .i64).is (u.Kids.length : Int)))] [(500100, (Bx 1 false 3 ((tI .i64).is v) b))]
      refine W.lenL (s := 12) (.tmp rfl) fun hlen9 => ?_
      refine W.sr ?_
      refine WL.op rfl (Op1.ltI (.tmp rfl) (.tmp rfl)) ?_
      refine WL.ns ?_
      refine W.seq ?_
      refine W.cond (.tmp rfl) (fun hc12 => ?_) (fun hc12 => ?_)
      · have hp13 := of_decide_eq_true hc12
        obtain ⟨e, es, hrest15⟩ := range_more hxs7 hi8 hp13
        subst hrest15
        rw [M.unit_every_i1_loop1.eq_2] at hm
        refine W.skip ?_
        refine WN.seq ?_
        refine W.seq ?_
        refine W.block ?_
        refine W.sr ?_
        refine WL.op rfl (Op1.idxPre hxs7 hi8 Tryd.underlying25 Tryd.sizeOf27 (.tmp rfl) (.tmp rfl)) ?_
        refine WL.op rfl (Op1.load ty27 (.tmp rfl)) ?_
        refine WL.opR rfl (OpR.alloc 6 ze27) (fun b1 => ?_)
        refine WL.opU (OpR.storeB (b := b1) 6 Tryd.sizeOf27 (Cellable.is tapi_Unit e) rfl (.tmp rfl) (.tmp rfl)) (fun _ => ?_)
        refine WL.sealed (t := tapi_Unit) (u := e) 6 6 rfl rfl ?_
        refine WL.nr ?_
        refine WL.op rfl (Op1.load ty27 (.tmp rfl)) ?_
        refine WL.mv rfl rfl ?_
        obtain ⟨⟨every, w1⟩, hv16, hm⟩ := bind_some hm
        dsimp only at hm
        refine WL.weakR (res' := [(500100, (Bx 1 false 3 ((tI .i64).is v) b))]) ⟨rfl, rfl, trivial⟩ ?_
        refine WL.opR rfl (OpR.call (us := [500100]) (A := fun kx : Unit => (tB.is every)) Tryd.call28 (FSpecR.keys (rin' := [(500100, (Bx 1 false 3 ((tI .i64).is v) b))]) (out' := fun kx : Unit => [(500100, (Bx 1 false 3 ((tI .i64).is w1) b))]) (ih _ _ _ _ hv16) rfl (fun _ => rfl)) rfl ⟨(.tmp rfl), (.tmp rfl), trivial⟩) (fun _ => ?_)
        refine WL.op rfl (Op1.notB (.tmp rfl)) ?_
        refine WL.ns ?_
        refine W.cond (.tmp rfl) (fun hc17 => ?_) (fun hc17 => ?_)
        · have hp18 := not_pos hc17
          rw [if_pos hp18] at hm
          refine W.sr ?_
          refine WL.op rfl (Op1.assign .bool) ?_
          refine WL.ns ?_
          have hr19 := Option.some.inj hm
          clear hm
          subst hr19
          have hm := hk6
          try dsimp only at hm
          cases hm
          exact W.ret1 () rfl (.tmp rfl) ⟨rfl, rfl, trivial⟩
        · have hp18 := not_neg hc17
          rw [if_neg hp18] at hm
          refine W.skip ?_
          refine WN.block ?_
          refine WN.seq ?_
          refine W.region ?_
          refine WL.op rfl (Op1.addI (.tmp rfl) (.int (inR64.2 (by omega))) (range_inR hi8 hp13 hlen9)) ?_
          refine WL.mv rfl rfl ?_
          refine WL.nil ?_
          exact WN.again es.length (i + 1, pre ++ [e], es, w1) (range_lt hn10) ⟨rfl, range_step hxs7, range_idx hi8, hm⟩ ⟨Ent.q rfl, Ent.q rfl, Ent.q rfl, Ent.q rfl, trivial⟩ ⟨rfl, rfl, trivial⟩
      · have hrest15 := range_end hxs7 hi8 (of_decide_eq_false hc12)
        subst hrest15
        rw [M.unit_every_i1_loop1.eq_1] at hm
        refine W.exit rfl ?_
        have hr20 := Option.some.inj hm
        clear hm
        subst hr20
        have hm := hk6
        try dsimp only at hm
        refine WN.seq ?_
        refine W.sr ?_
        refine WL.op rfl (Op1.assign .bool) ?_
        refine WL.ns ?_
        cases hm
        exact W.ret1 () rfl (.tmp rfl) ⟨rfl, rfl, trivial⟩

theorem unit_Count_spec (n : Nat) (u : api_Unit) (r : Int) (hm : M.unit_Count n u = some r) : FSpec Tryd.prog 31 [(tapi_Unit.is u)] ((tI .i64).is r) := by
  unfold M.unit_Count at hm
  refine FSpec.of Tryd.func31 rfl rfl rfl (fun g0 => ?_)
  refine W.sr ?_
  refine WL.op rfl (Op1.box (.tmp rfl)) ?_
  refine WL.op rfl (Op1.assign (.int (inR64.2 (by omega)))) ?_
  refine WL.nr ?_
  refine WL.opR rfl (OpR.alloc 3 ze3) (fun b => ?_)
  refine WL.opU (OpR.storeB (b := b) 3 Tryd.sizeOf3 (Cellable.is (tI .i64) (0 : Int)) rfl (.tmp rfl) (.int (inR64.2 (by omega)))) (fun _ => ?_)
  refine WL.nr ?_
  refine WL.op rfl (Op1.load ty27 (.tmp rfl)) ?_
  refine WL.op rfl (Op1.makeClo (Cs := [(Bp b 0)]) (cap := [.tmp 3]) ⟨(.tmp rfl), trivial⟩) ?_
  obtain ⟨⟨every, n0_⟩, hv1, hm⟩ := bind_some hm
  dsimp only at hm
  refine WL.weakR (res' := [(3, (Bx 1 false 3 ((tI .i64).is (0 : Int)) b))]) ⟨rfl, rfl, trivial⟩ ?_
  refine WL.opR rfl (OpR.call (us := [3]) (A := fun kx : Unit => (tB.is every)) Tryd.call28 (FSpecR.keys (rin' := [(3, (Bx 1 false 3 ((tI .i64).is (0 : Int)) b))]) (out' := fun kx : Unit => [(3, (Bx 1 false 3 ((tI .i64).is n0_) b))]) (unit_every_i1_spec _ _ _ _ _ hv1) rfl (fun _ => rfl)) rfl ⟨(.tmp rfl), (.tmp rfl), trivial⟩) (fun _ => ?_)
  refine WL.nr ?_
  refine WL.op rfl (Op1.loadB 3 Tryd.isAgg3 Tryd.sizeOf3 rfl (.tmp rfl)) ?_
  refine WL.gv rfl rfl ?_
  refine WL.ns ?_
  cases hm
  exact W.ret1 () rfl (.tmp rfl) trivial

theorem unit_IDs_1_spec (x : api_Unit) (c : List api_Id) (b : Nat) (k : Tok) (r : Bool × (List api_Id)) (hm : M.unit_IDs_1 x c = some r) : FSpecR Tryd.prog 33 [(tapi_Unit.is x), (Bp b 0)] [(1, (Bx 1 false 31 (tO tapi_Id k c) b)), (1000001, Own tapi_Id 23 k c.length)] (fun kx : Tok => (tB.is r.1)) (fun kx : Tok => [(1, (Bx 1 false 31 (tO tapi_Id kx r.2) b)), (1000001, Own tapi_Id 23 kx r.2.length)]) := by
  unfold M.unit_IDs_1 at hm
  refine FSpecR.of Tryd.func33 rfl rfl rfl (fun g0 => ?_)
  refine W.sr ?_
  refine WL.op rfl (Op1.box (.tmp rfl)) ?_
  refine WL.op rfl (Op1.assign .bool) ?_
  refine WL.nr ?_
  refine WL.op rfl (Op1.loadB 1 Tryd.isAgg31 Tryd.sizeOf31 rfl (.tmp rfl)) ?_
  refine WL.op rfl (Op1.fieldAddr Tryd.underlying27 rfl (fun w => ⟨2, Tryd.sizeOf23 w⟩) fapi_Unit_0 (.tmp rfl)) ?_
  refine WL.op rfl (Op1.load ty23 (.tmp rfl)) ?_
  refine WL.op rfl (Op1.buildSlice (n := 1) (ys := [(0, x.Id)]) (z := zapi_Id) (xs := [x.Id]) Tryd.underlying31 el23 ze23 ⟨rfl, (.tmp rfl), trivial⟩ (by simp) (by decide) rfl) ?_
  obtain ⟨out, hv1, hm⟩ := bind_some hm
  refine WL.opR rfl (OpR.appC (key := 1000001) hv1 Tryd.underlying31 el23 (.tmp rfl) (.tmp rfl) rfl) (fun k1 => ?_)
  refine WL.opU (OpR.storeB (b := b) 1 Tryd.sizeOf31 (Cellable.o tapi_Id k1 out) rfl (.tmp rfl) (.tmp rfl)) (fun _ => ?_)
  refine WL.nr ?_
  refine WL.op rfl (Op1.assign .bool) ?_
  refine WL.ns ?_
  cases hm
  exact W.ret1 k1 rfl (.tmp rfl) ⟨rfl, rfl, ⟨rfl, rfl, trivial⟩⟩

theorem unit_every_i2_spec : ∀ (n : Nat) (u : api_Unit) (c : List api_Id) (b : Nat) (k : Tok) (r : Bool × (List api_Id)), M.unit_every_i2 n u c = some r → FSpecR Tryd.prog 28 [(tapi_Unit.is u), (cloA 33 [(Bp b 0)])] [(500100, (Bx 1 false 31 (tO tapi_Id k c) b)), (1500100, Own tapi_Id 23 k c.length)] (fun kx : Tok => (tB.is r.1)) (fun kx : Tok => [(500100, (Bx 1 false 31 (tO tapi_Id kx r.2) b)), (1500100, Own tapi_Id 23 kx r.2.length)]) := by
  intro n
  induction n with
  | zero => intro u c b k r hm; cases hm
  | succ n ih =>
    intro u c b k r hm
    rw [M.unit_every_i2.eq_2] at hm
    refine FSpecR.of Tryd.func28 rfl rfl rfl (fun g0 => ?_)
    refine W.sr ?_
    refine WL.op rfl (Op1.box (.tmp rfl)) ?_
    refine WL.op rfl (Op1.assign .bool) ?_
    refine WL.ns ?_
    refine W.seq ?_
    refine W.sr ?_
    refine WL.mv rfl rfl ?_
    refine WL.op rfl (Op1.load ty27 (.tmp rfl)) ?_
    obtain ⟨⟨v1_, w⟩, hv1, hm⟩ := bind_some hm
    dsimp only at hm
    refine WL.weakR (res' := [(500100, (Bx 1 false 31 (tO tapi_Id k c) b)), (1500100, Own tapi_Id 23 k c.length)]) ⟨rfl, rfl, ⟨rfl, rfl, trivial⟩⟩ ?_
    refine WL.opR rfl (OpR.callClo (us := [500100, 1500100]) (A := fun kx : Tok => (tB.is v1_)) (As := [tapi_Unit.is u]) Tryd.call33 (.tmp rfl) (FSpecR.keys (rin' := [(500100, (Bx 1 false 31 (tO tapi_Id k c) b)), (1500100, Own tapi_Id 23 k c.length)]) (out' := fun kx : Tok => [(500100, (Bx 1 false 31 (tO tapi_Id kx w) b)), (1500100, Own tapi_Id 23 kx w.length)]) (unit_IDs_1_spec _ _ _ _ _ hv1) rfl (fun _ => rfl)) rfl ⟨(.tmp rfl), trivial⟩) (fun k1 => ?_)
    refine WL.op rfl (Op1.notB (.tmp rfl)) ?_
    refine WL.ns ?_
    refine W.cond (.tmp rfl) (fun hc2 => ?_) (fun hc2 => ?_)
    · have hp3 := not_pos hc2
      rw [if_pos hp3] at hm
      refine W.sr ?_
      refine WL.op rfl (Op1.assign .bool) ?_
      refine WL.ns ?_
      cases hm
      exact W.ret1 k1 rfl (.tmp rfl) ⟨rfl, rfl, ⟨rfl, rfl, trivial⟩⟩
    · have hp3 := not_neg hc2
      rw [if_neg hp3] at hm
      refine W.skip ?_
      refine WN.seq ?_
      refine W.seq ?_
      refine W.sr ?_
      refine WL.op rfl (Op1.fieldAddr Tryd.underlying27 rfl (fun w => ⟨0, Tryd.sizeOf25 w⟩) fapi_Unit_5 (.tmp rfl)) ?_
      refine WL.op rfl (Op1.load ty25 (.tmp rfl)) ?_
      refine WL.op rfl (Op1.lenL Tryd.underlying25 (.tmp rfl)) ?_
      refine WL.op rfl (Op1.move (.int (inR64.2 (by omega)))) ?_
      refine WL.ns ?_
      refine W.block ?_
      obtain ⟨s4, hs5, hk6⟩ := bind_some hm
      clear hm
      refine W.loop (fun m (s : Int × List api_Unit × List api_Unit × (((List api_Id)) × Tok)) => m = s.2.2.1.length ∧ u.Kids = s.2.1 ++ s.2.2.1 ∧ s.1 = (s.2.1.length : Int) ∧ M.unit_every_i2_loop1 (M.unit_every_i2 n) s.2.2.1 s.2.2.2.1 = some s4) (fun s => [(14, ((tI .i64).is s.1)), (1, (cloA 33 [(Bp b 0)])), (12, ((tL tapi_Unit).is u.Kids)), (13, ((tI .i64).is (u.Kids.length : Int)))]) (fun s => [(1500100, Own tapi_Id 23 s.2.2.2.2 s.2.2.2.1.length), (500100, (Bx 1 false 31 (tO tapi_Id s.2.2.2.2 s.2.2.2.1) b))]) u.Kids.length ((0 : Int), [], u.Kids, (w, k1)) ⟨rfl, rfl, rfl, hs5⟩ ⟨Ent.q rfl, Ent.q rfl, Ent.q rfl, Ent.q rfl, trivial⟩ ⟨rfl, rfl, ⟨rfl, rfl, trivial⟩⟩ ?_
      rintro m ⟨i, pre, rest1, ⟨v, k2⟩⟩ ⟨hn10, hxs7, hi8, hm⟩
      try dsimp only at hn10 hxs7 hi8 hm
      change W _ _ _ _ _ _ _ [(14, ((tI .i64).is i)), (1, (cloA 33 [(Bp b 0)])), (12, ((tL tapi_Unit).is u.Kids)), (13, ((tI .i64).is (u.Kids.length : Int)))] [(1500100, Own tapi_Id 23 k2 v.length), (500100, (Bx 1 false 31 (tO tapi_Id k2 v) b))]
      refine W.lenL (s := 12) (.tmp rfl) fun hlen9 => ?_
      refine W.sr ?_
      refine WL.op rfl (Op1.ltI (.tmp rfl) (.tmp rfl)) ?_
      refine WL.ns ?_
      refine W.seq ?_
      refine W.cond (.tmp rfl) (fun hc12 => ?_) (fun hc12 => ?_)
      · have hp13 := of_decide_eq_true hc12
        obtain ⟨e, es, hrest15⟩ := range_more hxs7 hi8 hp13
        subst hrest15
        rw [M.unit_every_i2_loop1.eq_2] at hm
        refine W.skip ?_
        refine WN.seq ?_
        refine W.seq ?_
        refine W.block ?_
        refine W.sr ?_
        refine WL.op rfl (Op1.idxPre hxs7 hi8 Tryd.underlying25 Tryd.sizeOf27 (.tmp rfl) (.tmp rfl)) ?_
        refine WL.op rfl (Op1.load ty27 (.tmp rfl)) ?_
        refine WL.opR rfl (OpR.alloc 6 ze27) (fun b1 => ?_)
        refine WL.opU (OpR.storeB (b := b1) 6 Tryd.sizeOf27 (Cellable.is tapi_Unit e) rfl (.tmp rfl) (.tmp rfl)) (fun _ => ?_)
        refine WL.sealed (t := tapi_Unit) (u := e) 6 6 rfl rfl ?_
        refine WL.nr ?_
        refine WL.op rfl (Op1.load ty27 (.tmp rfl)) ?_
        refine WL.mv rfl rfl ?_
        obtain ⟨⟨every, w1⟩, hv16, hm⟩ := bind_some hm
        dsimp only at hm
        refine WL.weakR (res' := [(500100, (Bx 1 false 31 (tO tapi_Id k2 v) b)), (1500100, Own tapi_Id 23 k2 v.length)]) ⟨rfl, rfl, ⟨rfl, rfl, trivial⟩⟩ ?_
        refine WL.opR rfl (OpR.call (us := [500100, 1500100]) (A := fun kx : Tok => (tB.is every)) Tryd.call28 (FSpecR.keys (rin' := [(500100, (Bx 1 false 31 (tO tapi_Id k2 v) b)), (1500100, Own tapi_Id 23 k2 v.length)]) (out' := fun kx : Tok => [(500100, (Bx 1 false 31 (tO tapi_Id kx w1) b)), (1500100, Own tapi_Id 23 kx w1.length)]) (ih _ _ _ _ _ hv16) rfl (fun _ => rfl)) rfl ⟨(.tmp rfl), (.tmp rfl), trivial⟩) (fun k3 => ?_)
        refine WL.op rfl (Op1.notB (.tmp rfl)) ?_
        refine WL.ns ?_
        refine W.cond (.tmp rfl) (fun hc17 => ?_) (fun hc17 => ?_)
        · have hp18 := not_pos hc17
          rw [if_pos hp18] at hm
          refine W.sr ?_
          refine WL.op rfl (Op1.assign .bool) ?_
          refine WL.ns ?_
          have hr19 := Option.some.inj hm
          clear hm
          subst hr19
          have hm := hk6
          try dsimp only at hm
          cases hm
          exact W.ret1 k3 rfl (.tmp rfl) ⟨rfl, rfl, ⟨rfl, rfl, trivial⟩⟩
        · have hp18 := not_neg hc17
          rw [if_neg hp18] at hm
          refine W.skip ?_
          refine WN.block ?_
          refine WN.seq ?_
          refine W.region ?_
          refine WL.op rfl (Op1.addI (.tmp rfl) (.int (inR64.2 (by omega))) (range_inR hi8 hp13 hlen9)) ?_
          refine WL.mv rfl rfl ?_
          refine WL.nil ?_
          exact WN.again es.length (i + 1, pre ++ [e], es, (w1, k3)) (range_lt hn10) ⟨rfl, range_step hxs7, range_idx hi8, hm⟩ ⟨Ent.q rfl, Ent.q rfl, Ent.q rfl, Ent.q rfl, trivial⟩ ⟨rfl, rfl, ⟨rfl, rfl, trivial⟩⟩
      · have hrest15 := range_end hxs7 hi8 (of_decide_eq_false hc12)
        subst hrest15
        rw [M.unit_every_i2_loop1.eq_1] at hm
        refine W.exit rfl ?_
        have hr20 := Option.some.inj hm
        clear hm
        subst hr20
        have hm := hk6
        try dsimp only at hm
        refine WN.seq ?_
        refine W.sr ?_
        refine WL.op rfl (Op1.assign .bool) ?_
        refine WL.ns ?_
        cases hm
        exact W.ret1 k2 rfl (.tmp rfl) ⟨rfl, rfl, ⟨rfl, rfl, trivial⟩⟩

theorem unit_IDs_spec (n : Nat) (u : api_Unit) (r : (List api_Id)) (hm : M.unit_IDs n u = some r) : FSpec Tryd.prog 11 [(tapi_Unit.is u)] ((tL tapi_Id).is r) := by
  unfold M.unit_IDs at hm
  refine FSpec.of Tryd.func11 rfl rfl rfl (fun g0 => ?_)
  refine W.sr ?_
  refine WL.op rfl (Op1.box (.tmp rfl)) ?_
  refine WL.op rfl (Op1.assign (.nil (t := tapi_Id))) ?_
  refine WL.nr ?_
  refine WL.addNil (t := tapi_Id) (E := 23) 1000003 ?_
  refine WL.opR rfl (OpR.allocO (t := tapi_Id) 3 Tryd.zeroValue31) (fun b => ?_)
  refine WL.nr ?_
  refine WL.op rfl (Op1.load ty27 (.tmp rfl)) ?_
  refine WL.op rfl (Op1.makeClo (Cs := [(Bp b 0)]) (cap := [.tmp 3]) ⟨(.tmp rfl), trivial⟩) ?_
  obtain ⟨⟨every, out⟩, hv1, hm⟩ := bind_some hm
  dsimp only at hm
  refine WL.weakR (res' := [(3, (Bx 1 false 31 (tO tapi_Id (none : Tok) ([] : List api_Id)) b)), (1000003, Own tapi_Id 23 (none : Tok) ([] : List api_Id).length)]) ⟨rfl, rfl, ⟨rfl, rfl, trivial⟩⟩ ?_
  refine WL.opR rfl (OpR.call (us := [3, 1000003]) (A := fun kx : Tok => (tB.is every)) Tryd.call28 (FSpecR.keys (rin' := [(3, (Bx 1 false 31 (tO tapi_Id (none : Tok) ([] : List api_Id)) b)), (1000003, Own tapi_Id 23 (none : Tok) ([] : List api_Id).length)]) (out' := fun kx : Tok => [(3, (Bx 1 false 31 (tO tapi_Id kx out) b)), (1000003, Own tapi_Id 23 kx out.length)]) (unit_every_i2_spec _ _ _ _ _ _ hv1) rfl (fun _ => rfl)) rfl ⟨(.tmp rfl), (.tmp rfl), trivial⟩) (fun k => ?_)
  refine WL.nr ?_
  refine WL.op rfl (Op1.loadB 3 Tryd.isAgg31 Tryd.sizeOf31 rfl (.tmp rfl)) ?_
  refine WL.gv rfl rfl ?_
  refine WL.ns ?_
  cases hm
  exact W.ret1 () rfl (Opd.own (.tmp rfl)) trivial

theorem unit_ids_spec (n : Nat) (u : api_Unit) (r : Bool) (hm : M.unit_ids n u = some r) : FSpec Tryd.prog 32 [(tapi_Unit.is u)] (tB.is r) := by
  unfold M.unit_ids at hm
  refine FSpec.of Tryd.func32 rfl rfl rfl (fun g0 => ?_)
  refine W.sr ?_
  refine WL.op rfl (Op1.box (.tmp rfl)) ?_
  refine WL.op rfl (Op1.assign .bool) ?_
  refine WL.nr ?_
  refine WL.op rfl (Op1.load ty27 (.tmp rfl)) ?_
  obtain ⟨ids, hv1, hm⟩ := bind_some hm
  refine WL.op rfl (Op1.call Tryd.call11 (unit_IDs_spec _ _ _ hv1) ⟨(.tmp rfl), trivial⟩) ?_
  refine WL.gv rfl rfl ?_
  refine WL.nr ?_
  refine WL.opR rfl (OpR.makeMap tapi_Id tB 10) (fun b => ?_)
  refine WL.gv rfl rfl ?_
  refine WL.ns ?_
  refine W.seq ?_
  refine W.sr ?_
  refine WL.mv rfl rfl ?_
  refine WL.op rfl (Op1.lenL Tryd.underlying31 (.tmp rfl)) ?_
  refine WL.op rfl (Op1.move (.int (inR64.2 (by omega)))) ?_
  refine WL.ns ?_
  refine W.block ?_
  obtain ⟨s2, hs3, hk4⟩ := bind_some hm
  clear hm
  refine W.loop (fun m (s : Int × List api_Id × List api_Id × ((List (api_Id × Bool)))) => m = s.2.2.1.length ∧ ids = s.2.1 ++ s.2.2.1 ∧ s.1 = (s.2.1.length : Int) ∧ M.unit_ids_loop1 s.2.2.1 s.2.2.2 = some s2) (fun s => [(13, ((tI .i64).is s.1)), (1, (tapi_Unit.ptr u)), (3, ((tL tapi_Id).is ids)), (4, (Mv b)), (11, ((tL tapi_Id).is ids)), (12, ((tI .i64).is (ids.length : Int)))]) (fun s => [(10, Mp tapi_Id tB s.2.2.2 b)]) ids.length ((0 : Int), [], ids, ([] : List (api_Id × Bool))) ⟨rfl, rfl, rfl, hs3⟩ ⟨Ent.q rfl, Ent.q rfl, Ent.q rfl, Ent.q rfl, Ent.q rfl, Ent.q rfl, trivial⟩ ⟨rfl, rfl, trivial⟩ ?_
  rintro m ⟨i, pre, rest1, v⟩ ⟨hn8, hxs5, hi6, hm⟩
  try dsimp only at hn8 hxs5 hi6 hm
  change W _ _ _ _ _ _ _ [(13, ((tI .i64).is i)), (1, (tapi_Unit.ptr u)), (3, ((tL tapi_Id).is ids)), (4, (Mv b)), (11, ((tL tapi_Id).is ids)), (12, ((tI .i64).is (ids.length : Int)))] [(10, Mp tapi_Id tB v b)]
  refine W.lenL (s := 11) (.tmp rfl) fun hlen7 => ?_
  refine W.sr ?_
  refine WL.op rfl (Op1.ltI (.tmp rfl) (.tmp rfl)) ?_
  refine WL.ns ?_
  refine W.seq ?_
  refine W.cond (.tmp rfl) (fun hc10 => ?_) (fun hc10 => ?_)
  · have hp11 := of_decide_eq_true hc10
    obtain ⟨e, es, hrest13⟩ := range_more hxs5 hi6 hp11
    subst hrest13
    rw [M.unit_ids_loop1.eq_2] at hm
    refine W.skip ?_
    refine WN.seq ?_
    refine W.seq ?_
    refine W.block ?_
    refine W.sr ?_
    refine WL.op rfl (Op1.idxPre hxs5 hi6 Tryd.underlying31 Tryd.sizeOf23 (.tmp rfl) (.tmp rfl)) ?_
    refine WL.op rfl (Op1.load ty23 (.tmp rfl)) ?_
    refine WL.opR rfl (OpR.alloc 6 ze23) (fun b1 => ?_)
    refine WL.opU (OpR.storeB (b := b1) 6 Tryd.sizeOf23 (Cellable.is tapi_Id e) rfl (.tmp rfl) (.tmp rfl)) (fun _ => ?_)
    refine WL.sealed (t := tapi_Id) (u := e) 6 6 rfl rfl ?_
    refine WL.nr1 ?_
    refine WL.mv rfl rfl ?_
    refine WL.op rfl (Op1.load ty23 (.tmp rfl)) ?_
    refine WL.opU (OpR.mapUpdate (b := b) (v := true) 10 Tryd.underlying59 kt23 rfl (.tmp rfl) (.tmp rfl) .bool) (fun _ => ?_)
    refine WL.nil ?_
    refine WN.block ?_
    refine WN.seq ?_
    refine W.region ?_
    refine WL.op rfl (Op1.addI (.tmp rfl) (.int (inR64.2 (by omega))) (range_inR hi6 hp11 hlen7)) ?_
    refine WL.mv rfl rfl ?_
    refine WL.nil ?_
    exact WN.again es.length (i + 1, pre ++ [e], es, mset v e true) (range_lt hn8) ⟨rfl, range_step hxs5, range_idx hi6, hm⟩ ⟨Ent.q rfl, Ent.q rfl, Ent.q rfl, Ent.q rfl, Ent.q rfl, Ent.q rfl, trivial⟩ ⟨rfl, rfl, trivial⟩
  · have hrest13 := range_end hxs5 hi6 (of_decide_eq_false hc10)
    subst hrest13
    rw [M.unit_ids_loop1.eq_1] at hm
    refine W.exit rfl ?_
    have hr14 := Option.some.inj hm
    clear hm
    subst hr14
    have hm := hk4
    try dsimp only at hm
    refine WN.seq ?_
    refine W.sr ?_
    refine WL.mv rfl rfl ?_
    refine WL.op rfl (Op1.build (s := tapi_Id) (x := (⟨(0 : Int), (0 : Int), (0 : Int)⟩ : api_Id)) zapi_Id_f rfl Tryd.underlying23 (zapi_Id_sz _ Tryd.underlying23) ze23 rfl) ?_
    refine WL.op rfl (Op1.lookup 10 Tryd.underlying59 kt23 ze4 rfl (.tmp rfl) (.tmp rfl)) ?_
    refine WL.gv rfl rfl ?_
    refine WL.ns ?_
    refine W.seq ?_
    rcases bcases (mget v (⟨(0 : Int), (0 : Int), (0 : Int)⟩ : api_Id) false) with hb15 | hb15
    · have hp16 := hb15
      rw [if_pos hp16] at hm
      obtain ⟨_, hv17, hm⟩ := bind_some hm
      rcases bcases (decide ((v.length : Int) = (1 : Int))) with hb18 | hb18
      · have hp19 := of_decide_eq_true hb18
        rw [if_pos hp19] at hm
        refine W.draw [.c (tB.is (mget v (⟨(0 : Int), (0 : Int), (0 : Int)⟩ : api_Id) false)), .c (tB.is (mget v (⟨(0 : Int), (0 : Int), (0 : Int)⟩ : api_Id) false)), .c (Mv b), .c ((tI .i64).is (v.length : Int)), .c (tB.is (decide ((v.length : Int) = (1 : Int)))), .c (tB.is (decide ((v.length : Int) = (1 : Int)))), .c (tB.is (decide ((v.length : Int) = (1 : Int)))), .c (Asn.eq undef), .c (Asn.eq undef), .c (Asn.eq undef), .c (Asn.eq undef), .c (Asn.eq undef), .c (Asn.eq undef), .c (Asn.eq undef), .c (Asn.eq undef), .c (Asn.eq undef), .c (Asn.eq undef), .c (Asn.eq undef), .c (Asn.eq undef), .c (Asn.eq undef), .c (Asn.eq undef), .c (Asn.eq undef), .c (tB.is true), .c (tB.is true)] [([], [7]), ([0], []), ([1], [4]), ([1, 2], []), ([1, 3], []), ([1, 4], []), ([5], []), ([6], [4]), ([6, 7], []), ([6], [3]), ([6, 9], []), ([6, 8, 10], []), ([6, 11], []), ([12], [1]), ([12, 13], []), ([12, 14], []), ([12], [1]), ([12, 16], []), ([12], []), ([12, 17, 18], []), ([12, 15, 19], []), ([6, 12, 20], []), ([6, 21], []), ([22], [])] Tryd.mixed rfl rfl rfl rfl (by exact ⟨.inr (Op1.move (.tmp rfl)), .inr (Op1.move (.tmp rfl)), .inr ⟨_, _, _, rfl, rfl, .inl ⟨rfl, .inl ⟨hb15, Op1.move (.tmp rfl)⟩⟩⟩, .inr ⟨_, _, _, rfl, rfl, .inl ⟨rfl, .inl ⟨hb15, Op1.lenM 10 Tryd.underlying59 rfl (.tmp rfl) (growC_lim hv17)⟩⟩⟩, .inr ⟨_, _, _, rfl, rfl, .inl ⟨rfl, .inl ⟨hb15, Op1.eqI (.tmp rfl) (.int (inR64.2 (by omega)))⟩⟩⟩, .inr (Op1.pickT (.tmp rfl) hb15 (.tmp rfl)), .inr (Op1.move (.tmp rfl)), .inr ⟨_, _, _, rfl, rfl, .inl ⟨rfl, .inr ⟨hb18, rfl⟩⟩⟩, .inr ⟨_, _, _, rfl, rfl, .inl ⟨rfl, .inr ⟨hb18, rfl⟩⟩⟩, .inr ⟨_, _, _, rfl, rfl, .inl ⟨rfl, .inr ⟨hb18, rfl⟩⟩⟩, .inr ⟨_, _, _, rfl, rfl, .inl ⟨rfl, .inr ⟨hb18, rfl⟩⟩⟩, .inr ⟨_, _, _, rfl, rfl, .inl ⟨rfl, .inr ⟨hb18, rfl⟩⟩⟩, .inr ⟨_, _, _, rfl, rfl, .inl ⟨rfl, .inr ⟨hb18, rfl⟩⟩⟩, .inr ⟨_, _, true, rfl, rfl, .inr ⟨rfl, rfl⟩⟩, .inr ⟨_, _, true, rfl, rfl, .inr ⟨rfl, rfl⟩⟩, .inr ⟨_, _, true, rfl, rfl, .inr ⟨rfl, rfl⟩⟩, .inr ⟨_, _, true, rfl, rfl, .inr ⟨rfl, rfl⟩⟩, .inr ⟨_, _, true, rfl, rfl, .inr ⟨rfl, rfl⟩⟩, .inr ⟨_, _, true, rfl, rfl, .inr ⟨rfl, rfl⟩⟩, .inr ⟨_, _, true, rfl, rfl, .inr ⟨rfl, rfl⟩⟩, .inr ⟨_, _, true, rfl, rfl, .inr ⟨rfl, rfl⟩⟩, .inr ⟨_, _, _, rfl, rfl, .inl ⟨rfl, .inr ⟨hb18, rfl⟩⟩⟩, .inr (Op1.pickT (.tmp rfl) hb18 .bool), .inr (Op1.assign (.tmp rfl)), trivial⟩) ?_
        refine WN.seq ?_
        cases hm
        exact W.ret1 () rfl (.tmp rfl) trivial
      · have hp19 := of_decide_eq_false hb18
        rw [if_neg hp19] at hm
        obtain ⟨_, hv20, hm⟩ := bind_some hm
        rcases bcases (decide ((v.length : Int) = (ids.length : Int))) with hb21 | hb21
        · have hp22 := of_decide_eq_true hb21
          rw [if_pos hp22] at hm
          refine W.draw [.c (tB.is (mget v (⟨(0 : Int), (0 : Int), (0 : Int)⟩ : api_Id) false)), .c (tB.is (mget v (⟨(0 : Int), (0 : Int), (0 : Int)⟩ : api_Id) false)), .c (Mv b), .c ((tI .i64).is (v.length : Int)), .c (tB.is (decide ((v.length : Int) = (1 : Int)))), .c (tB.is (decide ((v.length : Int) = (1 : Int)))), .c (tB.is (decide ((v.length : Int) = (1 : Int)))), .c (Mv b), .c ((tI .i64).is (v.length : Int)), .c ((tL tapi_Id).is ids), .c ((tI .i64).is (ids.length : Int)), .c (tB.is (decide ((v.length : Int) = (ids.length : Int)))), .c (tB.is (decide ((v.length : Int) = (ids.length : Int)))), .c ((tI .i64).ptr u.Kind), .c ((tI .i64).is u.Kind), .c (tB.is (decide (u.Kind = (0 : Int)))), .c (tapi_Id.ptr u.Id), .c (tapi_Id.is u.Id), .c (tapi_Id.is (⟨(0 : Int), (0 : Int), (0 : Int)⟩ : api_Id)), .c (tB.is (decide (u.Id = (⟨(0 : Int), (0 : Int), (0 : Int)⟩ : api_Id)))), .c (tB.is ((decide (u.Kind = (0 : Int))) == (decide (u.Id = (⟨(0 : Int), (0 : Int), (0 : Int)⟩ : api_Id))))), .c (tB.is ((decide (u.Kind = (0 : Int))) == (decide (u.Id = (⟨(0 : Int), (0 : Int), (0 : Int)⟩ : api_Id))))), .c (tB.is ((decide (u.Kind = (0 : Int))) == (decide (u.Id = (⟨(0 : Int), (0 : Int), (0 : Int)⟩ : api_Id))))), .c (tB.is ((decide (u.Kind = (0 : Int))) == (decide (u.Id = (⟨(0 : Int), (0 : Int), (0 : Int)⟩ : api_Id)))))] [([], [7]), ([0], []), ([1], [4]), ([1, 2], []), ([1, 3], []), ([1, 4], []), ([5], []), ([6], [4]), ([6, 7], []), ([6], [3]), ([6, 9], []), ([6, 8, 10], []), ([6, 11], []), ([12], [1]), ([12, 13], []), ([12, 14], []), ([12], [1]), ([12, 16], []), ([12], []), ([12, 17, 18], []), ([12, 15, 19], []), ([6, 12, 20], []), ([6, 21], []), ([22], [])] Tryd.mixed rfl rfl rfl rfl (by exact ⟨.inr (Op1.move (.tmp rfl)), .inr (Op1.move (.tmp rfl)), .inr ⟨_, _, _, rfl, rfl, .inl ⟨rfl, .inl ⟨hb15, Op1.move (.tmp rfl)⟩⟩⟩, .inr ⟨_, _, _, rfl, rfl, .inl ⟨rfl, .inl ⟨hb15, Op1.lenM 10 Tryd.underlying59 rfl (.tmp rfl) (growC_lim hv17)⟩⟩⟩, .inr ⟨_, _, _, rfl, rfl, .inl ⟨rfl, .inl ⟨hb15, Op1.eqI (.tmp rfl) (.int (inR64.2 (by omega)))⟩⟩⟩, .inr (Op1.pickT (.tmp rfl) hb15 (.tmp rfl)), .inr (Op1.move (.tmp rfl)), .inr ⟨_, _, _, rfl, rfl, .inl ⟨rfl, .inl ⟨hb18, Op1.move (.tmp rfl)⟩⟩⟩, .inr ⟨_, _, _, rfl, rfl, .inl ⟨rfl, .inl ⟨hb18, Op1.lenM 10 Tryd.underlying59 rfl (.tmp rfl) (growC_lim hv20)⟩⟩⟩, .inr ⟨_, _, _, rfl, rfl, .inl ⟨rfl, .inl ⟨hb18, Op1.move (.tmp rfl)⟩⟩⟩, .inr ⟨_, _, _, rfl, rfl, .inl ⟨rfl, .inl ⟨hb18, Op1.lenL Tryd.underlying31 (.tmp rfl)⟩⟩⟩, .inr ⟨_, _, _, rfl, rfl, .inl ⟨rfl, .inl ⟨hb18, Op1.eqI (.tmp rfl) (.tmp rfl)⟩⟩⟩, .inr ⟨_, _, _, rfl, rfl, .inl ⟨rfl, .inl ⟨hb18, Op1.move (.tmp rfl)⟩⟩⟩, .inr ⟨_, _, _, rfl, rfl, .inl ⟨rfl, .inl ⟨hb21, Op1.fieldAddr Tryd.underlying27 rfl (fun w => ⟨0, Tryd.sizeOf3 w⟩) fapi_Unit_1 (.tmp rfl)⟩⟩⟩, .inr ⟨_, _, _, rfl, rfl, .inl ⟨rfl, .inl ⟨hb21, Op1.load ty3 (.tmp rfl)⟩⟩⟩, .inr ⟨_, _, _, rfl, rfl, .inl ⟨rfl, .inl ⟨hb21, Op1.eqI (.tmp rfl) (.int (inR64.2 (by omega)))⟩⟩⟩, .inr ⟨_, _, _, rfl, rfl, .inl ⟨rfl, .inl ⟨hb21, Op1.fieldAddr Tryd.underlying27 rfl (fun w => ⟨2, Tryd.sizeOf23 w⟩) fapi_Unit_0 (.tmp rfl)⟩⟩⟩, .inr ⟨_, _, _, rfl, rfl, .inl ⟨rfl, .inl ⟨hb21, Op1.load ty23 (.tmp rfl)⟩⟩⟩, .inr ⟨_, _, _, rfl, rfl, .inl ⟨rfl, .inl ⟨hb21, Op1.build (s := tapi_Id) (x := (⟨(0 : Int), (0 : Int), (0 : Int)⟩ : api_Id)) zapi_Id_f rfl Tryd.underlying23 (zapi_Id_sz _ Tryd.underlying23) ze23 rfl⟩⟩⟩, .inr ⟨_, _, _, rfl, rfl, .inl ⟨rfl, .inl ⟨hb21, Op1.eqSt (D := 2) rfl (by decide) eg23 eq23 (.tmp rfl) (.tmp rfl)⟩⟩⟩, .inr ⟨_, _, _, rfl, rfl, .inl ⟨rfl, .inl ⟨hb21, Op1.eqB Tryd.underlying4 (.tmp rfl) (.tmp rfl)⟩⟩⟩, .inr ⟨_, _, _, rfl, rfl, .inl ⟨rfl, .inl ⟨hb18, Op1.pickT (.tmp rfl) hb21 (.tmp rfl)⟩⟩⟩, .inr (Op1.pickF (.tmp rfl) hb18 (.tmp rfl)), .inr (Op1.assign (.tmp rfl)), trivial⟩) ?_
          refine WN.seq ?_
          cases hm
          exact W.ret1 () rfl (.tmp rfl) trivial
        · have hp22 := of_decide_eq_false hb21
          rw [if_neg hp22] at hm
          refine W.draw [.c (tB.is (mget v (⟨(0 : Int), (0 : Int), (0 : Int)⟩ : api_Id) false)), .c (tB.is (mget v (⟨(0 : Int), (0 : Int), (0 : Int)⟩ : api_Id) false)), .c (Mv b), .c ((tI .i64).is (v.length : Int)), .c (tB.is (decide ((v.length : Int) = (1 : Int)))), .c (tB.is (decide ((v.length : Int) = (1 : Int)))), .c (tB.is (decide ((v.length : Int) = (1 : Int)))), .c (Mv b), .c ((tI .i64).is (v.length : Int)), .c ((tL tapi_Id).is ids), .c ((tI .i64).is (ids.length : Int)), .c (tB.is (decide ((v.length : Int) = (ids.length : Int)))), .c (tB.is (decide ((v.length : Int) = (ids.length : Int)))), .c (Asn.eq undef), .c (Asn.eq undef), .c (Asn.eq undef), .c (Asn.eq undef), .c (Asn.eq undef), .c (Asn.eq undef), .c (Asn.eq undef), .c (Asn.eq undef), .c (tB.is false), .c (tB.is false), .c (tB.is false)] [([], [7]), ([0], []), ([1], [4]), ([1, 2], []), ([1, 3], []), ([1, 4], []), ([5], []), ([6], [4]), ([6, 7], []), ([6], [3]), ([6, 9], []), ([6, 8, 10], []), ([6, 11], []), ([12], [1]), ([12, 13], []), ([12, 14], []), ([12], [1]), ([12, 16], []), ([12], []), ([12, 17, 18], []), ([12, 15, 19], []), ([6, 12, 20], []), ([6, 21], []), ([22], [])] Tryd.mixed rfl rfl rfl rfl (by exact ⟨.inr (Op1.move (.tmp rfl)), .inr (Op1.move (.tmp rfl)), .inr ⟨_, _, _, rfl, rfl, .inl ⟨rfl, .inl ⟨hb15, Op1.move (.tmp rfl)⟩⟩⟩, .inr ⟨_, _, _, rfl, rfl, .inl ⟨rfl, .inl ⟨hb15, Op1.lenM 10 Tryd.underlying59 rfl (.tmp rfl) (growC_lim hv17)⟩⟩⟩, .inr ⟨_, _, _, rfl, rfl, .inl ⟨rfl, .inl ⟨hb15, Op1.eqI (.tmp rfl) (.int (inR64.2 (by omega)))⟩⟩⟩, .inr (Op1.pickT (.tmp rfl) hb15 (.tmp rfl)), .inr (Op1.move (.tmp rfl)), .inr ⟨_, _, _, rfl, rfl, .inl ⟨rfl, .inl ⟨hb18, Op1.move (.tmp rfl)⟩⟩⟩, .inr ⟨_, _, _, rfl, rfl, .inl ⟨rfl, .inl ⟨hb18, Op1.lenM 10 Tryd.underlying59 rfl (.tmp rfl) (growC_lim hv20)⟩⟩⟩, .inr ⟨_, _, _, rfl, rfl, .inl ⟨rfl, .inl ⟨hb18, Op1.move (.tmp rfl)⟩⟩⟩, .inr ⟨_, _, _, rfl, rfl, .inl ⟨rfl, .inl ⟨hb18, Op1.lenL Tryd.underlying31 (.tmp rfl)⟩⟩⟩, .inr ⟨_, _, _, rfl, rfl, .inl ⟨rfl, .inl ⟨hb18, Op1.eqI (.tmp rfl) (.tmp rfl)⟩⟩⟩, .inr ⟨_, _, _, rfl, rfl, .inl ⟨rfl, .inl ⟨hb18, Op1.move (.tmp rfl)⟩⟩⟩, .inr ⟨_, _, _, rfl, rfl, .inl ⟨rfl, .inr ⟨hb21, rfl⟩⟩⟩, .inr ⟨_, _, _, rfl, rfl, .inl ⟨rfl, .inr ⟨hb21, rfl⟩⟩⟩, .inr ⟨_, _, _, rfl, rfl, .inl ⟨rfl, .inr ⟨hb21, rfl⟩⟩⟩, .inr ⟨_, _, _, rfl, rfl, .inl ⟨rfl, .inr ⟨hb21, rfl⟩⟩⟩, .inr ⟨_, _, _, rfl, rfl, .inl ⟨rfl, .inr ⟨hb21, rfl⟩⟩⟩, .inr ⟨_, _, _, rfl, rfl, .inl ⟨rfl, .inr ⟨hb21, rfl⟩⟩⟩, .inr ⟨_, _, _, rfl, rfl, .inl ⟨rfl, .inr ⟨hb21, rfl⟩⟩⟩, .inr ⟨_, _, _, rfl, rfl, .inl ⟨rfl, .inr ⟨hb21, rfl⟩⟩⟩, .inr ⟨_, _, _, rfl, rfl, .inl ⟨rfl, .inl ⟨hb18, Op1.pickF (.tmp rfl) hb21 .bool⟩⟩⟩, .inr (Op1.pickF (.tmp rfl) hb18 (.tmp rfl)), .inr (Op1.assign (.tmp rfl)), trivial⟩) ?_
          refine WN.seq ?_
          cases hm
          exact W.ret1 () rfl (.tmp rfl) trivial
    · have hp16 := ne_of_false hb15
      rw [if_neg hp16] at hm
      obtain ⟨_, hv23, hm⟩ := bind_some hm
      rcases bcases (decide ((v.length : Int) = (ids.length : Int))) with hb24 | hb24
      · have hp25 := of_decide_eq_true hb24
        rw [if_pos hp25] at hm
        refine W.draw [.c (tB.is (mget v (⟨(0 : Int), (0 : Int), (0 : Int)⟩ : api_Id) false)), .c (tB.is (mget v (⟨(0 : Int), (0 : Int), (0 : Int)⟩ : api_Id) false)), .c (Asn.eq undef), .c (Asn.eq undef), .c (Asn.eq undef), .c (tB.is false), .c (tB.is false), .c (Mv b), .c ((tI .i64).is (v.length : Int)), .c ((tL tapi_Id).is ids), .c ((tI .i64).is (ids.length : Int)), .c (tB.is (decide ((v.length : Int) = (ids.length : Int)))), .c (tB.is (decide ((v.length : Int) = (ids.length : Int)))), .c ((tI .i64).ptr u.Kind), .c ((tI .i64).is u.Kind), .c (tB.is (decide (u.Kind = (0 : Int)))), .c (tapi_Id.ptr u.Id), .c (tapi_Id.is u.Id), .c (tapi_Id.is (⟨(0 : Int), (0 : Int), (0 : Int)⟩ : api_Id)), .c (tB.is (decide (u.Id = (⟨(0 : Int), (0 : Int), (0 : Int)⟩ : api_Id)))), .c (tB.is ((decide (u.Kind = (0 : Int))) == (decide (u.Id = (⟨(0 : Int), (0 : Int), (0 : Int)⟩ : api_Id))))), .c (tB.is ((decide (u.Kind = (0 : Int))) == (decide (u.Id = (⟨(0 : Int), (0 : Int), (0 : Int)⟩ : api_Id))))), .c (tB.is ((decide (u.Kind = (0 : Int))) == (decide (u.Id = (⟨(0 : Int), (0 : Int), (0 : Int)⟩ : api_Id))))), .c (tB.is ((decide (u.Kind = (0 : Int))) == (decide (u.Id = (⟨(0 : Int), (0 : Int), (0 : Int)⟩ : api_Id)))))] [([], [7]), ([0], []), ([1], [4]), ([1, 2], []), ([1, 3], []), ([1, 4], []), ([5], []), ([6], [4]), ([6, 7], []), ([6], [3]), ([6, 9], []), ([6, 8, 10], []), ([6, 11], []), ([12], [1]), ([12, 13], []), ([12, 14], []), ([12], [1]), ([12, 16], []), ([12], []), ([12, 17, 18], []), ([12, 15, 19], []), ([6, 12, 20], []), ([6, 21], []), ([22], [])] Tryd.mixed rfl rfl rfl rfl (by exact ⟨.inr (Op1.move (.tmp rfl)), .inr (Op1.move (.tmp rfl)), .inr ⟨_, _, _, rfl, rfl, .inl ⟨rfl, .inr ⟨hb15, rfl⟩⟩⟩, .inr ⟨_, _, _, rfl, rfl, .inl ⟨rfl, .inr ⟨hb15, rfl⟩⟩⟩, .inr ⟨_, _, _, rfl, rfl, .inl ⟨rfl, .inr ⟨hb15, rfl⟩⟩⟩, .inr (Op1.pickF (.tmp rfl) hb15 .bool), .inr (Op1.move (.tmp rfl)), .inr ⟨_, _, _, rfl, rfl, .inl ⟨rfl, .inl ⟨rfl, Op1.move (.tmp rfl)⟩⟩⟩, .inr ⟨_, _, _, rfl, rfl, .inl ⟨rfl, .inl ⟨rfl, Op1.lenM 10 Tryd.underlying59 rfl (.tmp rfl) (growC_lim hv23)⟩⟩⟩, .inr ⟨_, _, _, rfl, rfl, .inl ⟨rfl, .inl ⟨rfl, Op1.move (.tmp rfl)⟩⟩⟩, .inr ⟨_, _, _, rfl, rfl, .inl ⟨rfl, .inl ⟨rfl, Op1.lenL Tryd.underlying31 (.tmp rfl)⟩⟩⟩, .inr ⟨_, _, _, rfl, rfl, .inl ⟨rfl, .inl ⟨rfl, Op1.eqI (.tmp rfl) (.tmp rfl)⟩⟩⟩, .inr ⟨_, _, _, rfl, rfl, .inl ⟨rfl, .inl ⟨rfl, Op1.move (.tmp rfl)⟩⟩⟩, .inr ⟨_, _, _, rfl, rfl, .inl ⟨rfl, .inl ⟨hb24, Op1.fieldAddr Tryd.underlying27 rfl (fun w => ⟨0, Tryd.sizeOf3 w⟩) fapi_Unit_1 (.tmp rfl)⟩⟩⟩, .inr ⟨_, _, _, rfl, rfl, .inl ⟨rfl, .inl ⟨hb24, Op1.load ty3 (.tmp rfl)⟩⟩⟩, .inr ⟨_, _, _, rfl, rfl, .inl ⟨rfl, .inl ⟨hb24, Op1.eqI (.tmp rfl) (.int (inR64.2 (by omega)))⟩⟩⟩, .inr ⟨_, _, _, rfl, rfl, .inl ⟨rfl, .inl ⟨hb24, Op1.fieldAddr Tryd.underlying27 rfl (fun w => ⟨2, Tryd.sizeOf23 w⟩) fapi_Unit_0 (.tmp rfl)⟩⟩⟩, .inr ⟨_, _, _, rfl, rfl, .inl ⟨rfl, .inl ⟨hb24, Op1.load ty23 (.tmp rfl)⟩⟩⟩, .inr ⟨_, _, _, rfl, rfl, .inl ⟨rfl, .inl ⟨hb24, Op1.build (s := tapi_Id) (x := (⟨(0 : Int), (0 : Int), (0 : Int)⟩ : api_Id)) zapi_Id_f rfl Tryd.underlying23 (zapi_Id_sz _ Tryd.underlying23) ze23 rfl⟩⟩⟩, .inr ⟨_, _, _, rfl, rfl, .inl ⟨rfl, .inl ⟨hb24, Op1.eqSt (D := 2) rfl (by decide) eg23 eq23 (.tmp rfl) (.tmp rfl)⟩⟩⟩, .inr ⟨_, _, _, rfl, rfl, .inl ⟨rfl, .inl ⟨hb24, Op1.eqB Tryd.underlying4 (.tmp rfl) (.tmp rfl)⟩⟩⟩, .inr ⟨_, _, _, rfl, rfl, .inl ⟨rfl, .inl ⟨rfl, Op1.pickT (.tmp rfl) hb24 (.tmp rfl)⟩⟩⟩, .inr (Op1.pickF (.tmp rfl) rfl (.tmp rfl)), .inr (Op1.assign (.tmp rfl)), trivial⟩) ?_
        refine WN.seq ?_
        cases hm
        exact W.ret1 () rfl (.tmp rfl) trivial
      · have hp25 := of_decide_eq_false hb24
        rw [if_neg hp25] at hm
        refine W.draw [.c (tB.is (mget v (⟨(0 : Int), (0 : Int), (0 : Int)⟩ : api_Id) false)), .c (tB.is (mget v (⟨(0 : Int), (0 : Int), (0 : Int)⟩ : api_Id) false)), .c (Asn.eq undef), .c (Asn.eq undef), .c (Asn.eq undef), .c (tB.is false), .c (tB.is false), .c (Mv b), .c ((tI .i64).is (v.length : Int)), .c ((tL tapi_Id).is ids), .c ((tI .i64).is (ids.length : Int)), .c (tB.is (decide ((v.length : Int) = (ids.length : Int)))), .c (tB.is (decide ((v.length : Int) = (ids.length : Int)))), .c (Asn.eq undef), .c (Asn.eq undef), .c (Asn.eq undef), .c (Asn.eq undef), .c (Asn.eq undef), .c (Asn.eq undef), .c (Asn.eq undef), .c (Asn.eq undef), .c (tB.is false), .c (tB.is false), .c (tB.is false)] [([], [7]), ([0], []), ([1], [4]), ([1, 2], []), ([1, 3], []), ([1, 4], []), ([5], []), ([6], [4]), ([6, 7], []), ([6], [3]), ([6, 9], []), ([6, 8, 10], []), ([6, 11], []), ([12], [1]), ([12, 13], []), ([12, 14], []), ([12], [1]), ([12, 16], []), ([12], []), ([12, 17, 18], []), ([12, 15, 19], []), ([6, 12, 20], []), ([6, 21], []), ([22], [])] Tryd.mixed rfl rfl rfl rfl (by exact ⟨.inr (Op1.move (.tmp rfl)), .inr (Op1.move (.tmp rfl)), .inr ⟨_, _, _, rfl, rfl, .inl ⟨rfl, .inr ⟨hb15, rfl⟩⟩⟩, .inr ⟨_, _, _, rfl, rfl, .inl ⟨rfl, .inr ⟨hb15, rfl⟩⟩⟩, .inr ⟨_, _, _, rfl, rfl, .inl ⟨rfl, .inr ⟨hb15, rfl⟩⟩⟩, .inr (Op1.pickF (.tmp rfl) hb15 .bool), .inr (Op1.move (.tmp rfl)), .inr ⟨_, _, _, rfl, rfl, .inl ⟨rfl, .inl ⟨rfl, Op1.move (.tmp rfl)⟩⟩⟩, .inr ⟨_, _, _, rfl, rfl, .inl ⟨rfl, .inl ⟨rfl, Op1.lenM 10 Tryd.underlying59 rfl (.tmp rfl) (growC_lim hv23)⟩⟩⟩, .inr ⟨_, _, _, rfl, rfl, .inl ⟨rfl, .inl ⟨rfl, Op1.move (.tmp rfl)⟩⟩⟩, .inr ⟨_, _, _, rfl, rfl, .inl ⟨rfl, .inl ⟨rfl, Op1.lenL Tryd.underlying31 (.tmp rfl)⟩⟩⟩, .inr ⟨_, _, _, rfl, rfl, .inl ⟨rfl, .inl ⟨rfl, Op1.eqI (.tmp rfl) (.tmp rfl)⟩⟩⟩, .inr ⟨_, _, _, rfl, rfl, .inl ⟨rfl, .inl ⟨rfl, Op1.move (.tmp rfl)⟩⟩⟩, .inr ⟨_, _, _, rfl, rfl, .inl ⟨rfl, .inr ⟨hb24, rfl⟩⟩⟩, .inr ⟨_, _, _, rfl, rfl, .inl ⟨rfl, .inr ⟨hb24, rfl⟩⟩⟩, .inr ⟨_, _, _, rfl, rfl, .inl ⟨rfl, .inr ⟨hb24, rfl⟩⟩⟩, .inr ⟨_, _, _, rfl, rfl, .inl ⟨rfl, .inr ⟨hb24, rfl⟩⟩⟩, .inr ⟨_, _, _, rfl, rfl, .inl ⟨rfl, .inr ⟨hb24, rfl⟩⟩⟩, .inr ⟨_, _, _, rfl, rfl, .inl ⟨rfl, .inr ⟨hb24, rfl⟩⟩⟩, .inr ⟨_, _, _, rfl, rfl, .inl ⟨rfl, .inr ⟨hb24, rfl⟩⟩⟩, .inr ⟨_, _, _, rfl, rfl, .inl ⟨rfl, .inr ⟨hb24, rfl⟩⟩⟩, .inr ⟨_, _, _, rfl, rfl, .inl ⟨rfl, .inl ⟨rfl, Op1.pickF (.tmp rfl) hb24 .bool⟩⟩⟩, .inr (Op1.pickF (.tmp rfl) rfl (.tmp rfl)), .inr (Op1.assign (.tmp rfl)), trivial⟩) ?_
        refine WN.seq ?_
        cases hm
        exact W.ret1 () rfl (.tmp rfl) trivial

theorem unit_Valid_spec (n : Nat) (u : api_Unit) (r : Bool) (hm : M.unit_Valid n u = some r) : FSpecR Tryd.prog 9 [(tapi_Unit.is u)] [(700000, Gl (tA 8 tS) 0 gv0), (700001, Gl (tA 8 (tL (tI .i64))) 1 gv1)] (fun _ : Unit => (tB.is r)) (fun _ => []) := by
  unfold M.unit_Valid at hm
  refine FSpecR.of Tryd.func9 rfl rfl rfl (fun g0 => ?_)
  refine W.sr ?_
  refine WL.op rfl (Op1.box (.tmp rfl)) ?_
  refine WL.op rfl (Op1.assign .bool) ?_
  refine WL.nr ?_
  refine WL.op rfl (Op1.load ty27 (.tmp rfl)) ?_
  obtain ⟨every, hv1, hm⟩ := bind_some hm
  refine WL.op rfl (Op1.callG (rin := [(700000, Gl (tA 8 tS) 0 gv0), (700001, Gl (tA 8 (tL (tI .i64))) 1 gv1)]) Tryd.call28 (unit_every_i0_spec _ _ _ hv1) ⟨rfl, rfl, trivial⟩ ⟨rfl, rfl, ⟨rfl, rfl, trivial⟩⟩ ⟨(.tmp rfl), Opd.cloFn, trivial⟩) ?_
  refine WL.mv rfl rfl ?_
  rcases bcases (every) with hb2 | hb2
  · have hp3 := hb2
    rw [if_pos hp3] at hm
    refine WL.run rfl rfl rfl rfl hb2 rfl rfl (Op1.load ty27 (.tmp rfl)) ?_
    obtain ⟨depth, hv4, hm⟩ := bind_some hm
    refine WL.run rfl rfl rfl rfl hb2 rfl rfl (Op1.call Tryd.call30 (unit_Depth_spec _ _ _ hv4) ⟨(.tmp rfl), trivial⟩) ?_
    refine WL.run rfl rfl rfl rfl hb2 rfl rfl (Op1.leI (.tmp rfl) (.int (inR64.2 (by omega)))) ?_
    refine WL.op rfl (Op1.pickT (.tmp rfl) hb2 (.tmp rfl)) ?_
    refine WL.mv rfl rfl ?_
    rcases bcases (decide (depth ≤ (8 : Int))) with hb5 | hb5
    · have hp6 := of_decide_eq_true hb5
      rw [if_pos hp6] at hm
      refine WL.run rfl rfl rfl rfl hb5 rfl rfl (Op1.load ty27 (.tmp rfl)) ?_
      obtain ⟨count, hv7, hm⟩ := bind_some hm
      refine WL.run rfl rfl rfl rfl hb5 rfl rfl (Op1.call Tryd.call31 (unit_Count_spec _ _ _ hv7) ⟨(.tmp rfl), trivial⟩) ?_
      refine WL.run rfl rfl rfl rfl hb5 rfl rfl (Op1.leI (.tmp rfl) (.int (inR64.2 (by omega)))) ?_
      refine WL.op rfl (Op1.pickT (.tmp rfl) hb5 (.tmp rfl)) ?_
      refine WL.mv rfl rfl ?_
      rcases bcases (decide (count ≤ (1024 : Int))) with hb8 | hb8
      · have hp9 := of_decide_eq_true hb8
        rw [if_pos hp9] at hm
        refine WL.run rfl rfl rfl rfl hb8 rfl rfl (Op1.load ty27 (.tmp rfl)) ?_
        obtain ⟨ids, hv10, hm⟩ := bind_some hm
        refine WL.run rfl rfl rfl rfl hb8 rfl rfl (Op1.call Tryd.call32 (unit_ids_spec _ _ _ hv10) ⟨(.tmp rfl), trivial⟩) ?_
        refine WL.op rfl (Op1.pickT (.tmp rfl) hb8 (.tmp rfl)) ?_
        refine WL.gv rfl rfl ?_
        refine WL.ns ?_
        cases hm
        exact W.ret1 () rfl (.tmp rfl) trivial
      · have hp9 := of_decide_eq_false hb8
        rw [if_neg hp9] at hm
        refine WL.pass rfl rfl rfl rfl hb8 rfl rfl ?_
        refine WL.pass rfl rfl rfl rfl hb8 rfl rfl ?_
        refine WL.op rfl (Op1.pickF (.tmp rfl) hb8 .bool) ?_
        refine WL.gv rfl rfl ?_
        refine WL.ns ?_
        cases hm
        exact W.ret1 () rfl (.tmp rfl) trivial
    · have hp6 := of_decide_eq_false hb5
      rw [if_neg hp6] at hm
      refine WL.pass rfl rfl rfl rfl hb5 rfl rfl ?_
      refine WL.pass rfl rfl rfl rfl hb5 rfl rfl ?_
      refine WL.pass rfl rfl rfl rfl hb5 rfl rfl ?_
      refine WL.op rfl (Op1.pickF (.tmp rfl) hb5 .bool) ?_
      refine WL.mv rfl rfl ?_
      refine WL.pass rfl rfl rfl rfl rfl rfl rfl ?_
      refine WL.pass rfl rfl rfl rfl rfl rfl rfl ?_
      refine WL.op rfl (Op1.pickF (.tmp rfl) rfl .bool) ?_
      refine WL.gv rfl rfl ?_
      refine WL.ns ?_
      cases hm
      exact W.ret1 () rfl (.tmp rfl) trivial
  · have hp3 := ne_of_false hb2
    rw [if_neg hp3] at hm
    refine WL.pass rfl rfl rfl rfl hb2 rfl rfl ?_
    refine WL.pass rfl rfl rfl rfl hb2 rfl rfl ?_
    refine WL.pass rfl rfl rfl rfl hb2 rfl rfl ?_
    refine WL.op rfl (Op1.pickF (.tmp rfl) hb2 .bool) ?_
    refine WL.mv rfl rfl ?_
    refine WL.pass rfl rfl rfl rfl rfl rfl rfl ?_
    refine WL.pass rfl rfl rfl rfl rfl rfl rfl ?_
    refine WL.pass rfl rfl rfl rfl rfl rfl rfl ?_
    refine WL.op rfl (Op1.pickF (.tmp rfl) rfl .bool) ?_
    refine WL.mv rfl rfl ?_
    refine WL.pass rfl rfl rfl rfl rfl rfl rfl ?_
    refine WL.pass rfl rfl rfl rfl rfl rfl rfl ?_
    refine WL.op rfl (Op1.pickF (.tmp rfl) rfl .bool) ?_
    refine WL.gv rfl rfl ?_
    refine WL.ns ?_
    cases hm
    exact W.ret1 () rfl (.tmp rfl) trivial

theorem law07_apart_spec (n : Nat) (u : api_Unit) (r : Bool) (hm : M.law07_apart n u = some r) : FSpec Tryd.prog 10 [(tapi_Unit.is u)] (tB.is r) := by
  unfold M.law07_apart at hm
  refine FSpec.of Tryd.func10 rfl rfl rfl (fun g0 => ?_)
  refine W.sr ?_
  refine WL.op rfl (Op1.box (.tmp rfl)) ?_
  refine WL.op rfl (Op1.assign .bool) ?_
  refine WL.nr ?_
  refine WL.opR rfl (OpR.makeMap tapi_Id tB 6) (fun b => ?_)
  refine WL.gv rfl rfl ?_
  refine WL.ns ?_
  refine W.seq ?_
  refine W.sr ?_
  refine WL.op rfl (Op1.load ty27 (.tmp rfl)) ?_
  obtain ⟨ids, hv1, hm⟩ := bind_some hm
  refine WL.op rfl (Op1.call Tryd.call11 (unit_IDs_spec _ _ _ hv1) ⟨(.tmp rfl), trivial⟩) ?_
  refine WL.op rfl (Op1.lenL Tryd.underlying31 (.tmp rfl)) ?_
  refine WL.op rfl (Op1.move (.int (inR64.2 (by omega)))) ?_
  refine WL.ns ?_
  refine W.block ?_
  obtain ⟨s2, hs3, hk4⟩ := bind_some hm
  clear hm
  refine W.loop (fun m (s : Int × List api_Id × List api_Id × ((List (api_Id × Bool)))) => m = s.2.2.1.length ∧ ids = s.2.1 ++ s.2.2.1 ∧ s.1 = (s.2.1.length : Int) ∧ M.law07_apart_loop1 s.2.2.1 s.2.2.2 = some s2) (fun s => [(10, ((tI .i64).is s.1)), (3, (Mv b)), (8, ((tL tapi_Id).is ids)), (9, ((tI .i64).is (ids.length : Int)))]) (fun s => [(6, Mp tapi_Id tB s.2.2.2 b)]) ids.length ((0 : Int), [], ids, ([] : List (api_Id × Bool))) ⟨rfl, rfl, rfl, hs3⟩ ⟨Ent.q rfl, Ent.q rfl, Ent.q rfl, Ent.q rfl, trivial⟩ ⟨rfl, rfl, trivial⟩ ?_
  rintro m ⟨i, pre, rest1, v⟩ ⟨hn8, hxs5, hi6, hm⟩
  try dsimp only at hn8 hxs5 hi6 hm
  change W _ _ _ _ _ _ _ [(10, ((tI .i64).is i)), (3, (Mv b)), (8, ((tL tapi_Id).is ids)), (9, ((tI .i64).is (ids.length : Int)))] [(6, Mp tapi_Id tB v b)]
  refine W.lenL (s := 8) (.tmp rfl) fun hlen7 => ?_
  refine W.sr ?_
  refine WL.op rfl (Op1.ltI (.tmp rfl) (.tmp rfl)) ?_
  refine WL.ns ?_
  refine W.seq ?_
  refine W.cond (.tmp rfl) (fun hc10 => ?_) (fun hc10 => ?_)
  · have hp11 := of_decide_eq_true hc10
    obtain ⟨e, es, hrest13⟩ := range_more hxs5 hi6 hp11
    subst hrest13
    rw [M.law07_apart_loop1.eq_2] at hm
    refine W.skip ?_
    refine WN.seq ?_
    refine W.seq ?_
    refine W.block ?_
    refine W.sr ?_
    refine WL.op rfl (Op1.idxPre hxs5 hi6 Tryd.underlying31 Tryd.sizeOf23 (.tmp rfl) (.tmp rfl)) ?_
    refine WL.op rfl (Op1.load ty23 (.tmp rfl)) ?_
    refine WL.opR rfl (OpR.alloc 5 ze23) (fun b1 => ?_)
    refine WL.opU (OpR.storeB (b := b1) 5 Tryd.sizeOf23 (Cellable.is tapi_Id e) rfl (.tmp rfl) (.tmp rfl)) (fun _ => ?_)
    refine WL.sealed (t := tapi_Id) (u := e) 5 5 rfl rfl ?_
    refine WL.ns ?_
    refine W.seq ?_
    refine W.sr ?_
    refine WL.mv rfl rfl ?_
    refine WL.op rfl (Op1.load ty23 (.tmp rfl)) ?_
    refine WL.op rfl (Op1.lookup 6 Tryd.underlying59 kt23 ze4 rfl (.tmp rfl) (.tmp rfl)) ?_
    refine WL.ns ?_
    refine W.cond (.tmp rfl) (fun hc14 => ?_) (fun hc14 => ?_)
    · have hp15 := hc14
      rw [if_pos hp15] at hm
      refine W.sr ?_
      refine WL.op rfl (Op1.assign .bool) ?_
      refine WL.ns ?_
      have hr16 := Option.some.inj hm
      clear hm
      subst hr16
      have hm := hk4
      try dsimp only at hm
      cases hm
      exact W.ret1 () rfl (.tmp rfl) trivial
    · have hp15 := ne_of_false hc14
      rw [if_neg hp15] at hm
      refine W.skip ?_
      refine WN.seq ?_
      refine W.region ?_
      refine WL.mv rfl rfl ?_
      refine WL.op rfl (Op1.load ty23 (.tmp rfl)) ?_
      refine WL.opU (OpR.mapUpdate (b := b) (v := true) 6 Tryd.underlying59 kt23 rfl (.tmp rfl) (.tmp rfl) .bool) (fun _ => ?_)
      refine WL.nil ?_
      refine WN.block ?_
      refine WN.seq ?_
      refine W.region ?_
      refine WL.op rfl (Op1.addI (.tmp rfl) (.int (inR64.2 (by omega))) (range_inR hi6 hp11 hlen7)) ?_
      refine WL.mv rfl rfl ?_
      refine WL.nil ?_
      exact WN.again es.length (i + 1, pre ++ [e], es, mset v e true) (range_lt hn8) ⟨rfl, range_step hxs5, range_idx hi6, hm⟩ ⟨Ent.q rfl, Ent.q rfl, Ent.q rfl, Ent.q rfl, trivial⟩ ⟨rfl, rfl, trivial⟩
  · have hrest13 := range_end hxs5 hi6 (of_decide_eq_false hc10)
    subst hrest13
    rw [M.law07_apart_loop1.eq_1] at hm
    refine W.exit rfl ?_
    have hr17 := Option.some.inj hm
    clear hm
    subst hr17
    have hm := hk4
    try dsimp only at hm
    refine WN.seq ?_
    refine W.sr ?_
    refine WL.op rfl (Op1.assign .bool) ?_
    refine WL.ns ?_
    cases hm
    exact W.ret1 () rfl (.tmp rfl) trivial

theorem r07_Same_spec (n : Nat) (a : List api_Step) (b : List api_Step) (r : Bool) (hm : M.r07_Same n a b = some r) : FSpec Tryd.prog 15 [((tL tapi_Step).is a), ((tL tapi_Step).is b)] (tB.is r) := by
  unfold M.r07_Same at hm
  refine FSpec.of Tryd.func15 rfl rfl rfl (fun g0 => ?_)
  refine W.sr ?_
  refine WL.op rfl (Op1.assign .bool) ?_
  refine WL.ns ?_
  refine W.seq ?_
  refine W.sr ?_
  refine WL.mv rfl rfl ?_
  refine WL.op rfl (Op1.lenL Tryd.underlying33 (.tmp rfl)) ?_
  refine WL.mv rfl rfl ?_
  refine WL.op rfl (Op1.lenL Tryd.underlying33 (.tmp rfl)) ?_
  refine WL.op rfl (Op1.neI (.tmp rfl) (.tmp rfl)) ?_
  refine WL.ns ?_
  refine W.cond (.tmp rfl) (fun hc1 => ?_) (fun hc1 => ?_)
  · have hp2 := of_decide_eq_true hc1
    rw [if_pos hp2] at hm
    refine W.sr ?_
    refine WL.op rfl (Op1.assign .bool) ?_
    refine WL.ns ?_
    cases hm
    exact W.ret1 () rfl (.tmp rfl) trivial
  · have hp2 := of_decide_eq_false hc1
    rw [if_neg hp2] at hm
    refine W.skip ?_
    refine WN.seq ?_
    refine W.seq ?_
    refine W.sr ?_
    refine WL.op rfl (Op1.assign (.int (inR64.2 (by omega)))) ?_
    refine WL.ns ?_
    refine W.block ?_
    obtain ⟨s3, hs4, hk5⟩ := bind_some hm
    clear hm
    refine W.loop (fun m (s : Int) => M.r07_Same_loop1 a b m s = some s3) (fun s => [(5, ((tI .i64).is s)), (0, ((tL tapi_Step).is a)), (1, ((tL tapi_Step).is b))]) (fun s => []) _ (0 : Int) hs4 ⟨Ent.q rfl, Ent.q rfl, Ent.q rfl, trivial⟩ trivial ?_
    rintro n6 i hm
    try dsimp only at hm
    change W _ _ _ _ _ _ _ [(5, ((tI .i64).is i)), (0, ((tL tapi_Step).is a)), (1, ((tL tapi_Step).is b))] []
    cases n6 with
    | zero => rw [M.r07_Same_loop1.eq_1] at hm; cases hm
    | succ n6 =>
      rw [M.r07_Same_loop1.eq_2] at hm
      refine W.seq ?_
      refine W.sr ?_
      refine WL.mv rfl rfl ?_
      refine WL.mv rfl rfl ?_
      refine WL.op rfl (Op1.lenL Tryd.underlying33 (.tmp rfl)) ?_
      refine WL.op rfl (Op1.ltI (.tmp rfl) (.tmp rfl)) ?_
      refine WL.ns ?_
      refine W.cond (.tmp rfl) (fun hc7 => ?_) (fun hc7 => ?_)
      · have hp8 := of_decide_eq_true hc7
        rw [if_pos hp8] at hm
        refine W.skip ?_
        refine WN.seq ?_
        refine W.seq ?_
        refine W.block ?_
        refine W.seq ?_
        obtain ⟨v, hv9, hm⟩ := bind_some hm
        obtain ⟨v1, hv10, hm⟩ := bind_some hm
        refine W.draw [.c ((tL tapi_Step).is a), .c ((tI .i64).is i), .c (tapi_Step.ptr v), .c (tapi_Step.is v), .c ((tL tapi_Step).is b), .c ((tI .i64).is i), .c (tapi_Step.ptr v1), .c (tapi_Step.is v1), .c (tB.is (decide (v ≠ v1)))] [([], [0]), ([], [5]), ([0, 1], []), ([2], []), ([], [1]), ([], [5]), ([4, 5], []), ([6], []), ([3, 7], [])] Tryd.mixed rfl rfl rfl rfl ⟨.inr (Op1.move (.tmp rfl)), .inr (Op1.move (.tmp rfl)), .inr (Op1.idx hv9 Tryd.underlying33 Tryd.sizeOf41 (.tmp rfl) (.tmp rfl)), .inr (Op1.load ty41 (.tmp rfl)), .inr (Op1.move (.tmp rfl)), .inr (Op1.move (.tmp rfl)), .inr (Op1.idx hv10 Tryd.underlying33 Tryd.sizeOf41 (.tmp rfl) (.tmp rfl)), .inr (Op1.load ty41 (.tmp rfl)), .inr (Op1.neSt (D := 2) rfl (by decide) eg41 eq41 (.tmp rfl) (.tmp rfl)), trivial⟩ ?_
        refine WN.seq ?_
        refine W.cond (.tmp rfl) (fun hc11 => ?_) (fun hc11 => ?_)
        · have hp12 := of_decide_eq_true hc11
          rw [if_pos hp12] at hm
          refine W.sr ?_
          refine WL.op rfl (Op1.assign .bool) ?_
          refine WL.ns ?_
          have hr13 := Option.some.inj hm
          clear hm
          subst hr13
          have hm := hk5
          try dsimp only at hm
          cases hm
          exact W.ret1 () rfl (.tmp rfl) trivial
        · have hp12 := of_decide_eq_false hc11
          rw [if_neg hp12] at hm
          refine W.skip ?_
          refine WN.block ?_
          refine WN.seq ?_
          refine W.region ?_
          refine WL.mv rfl rfl ?_
          refine WL.lenL (s := 0) (.tmp rfl) fun hl14 => ?_
          refine WL.op rfl (Op1.addI1 (.tmp rfl) (.int (inR64.2 (by omega))) hp8 hl14) ?_
          refine WL.gv rfl rfl ?_
          refine WL.nil ?_
          exact WN.again n6 (i + 1) (Nat.lt_succ_self n6) hm ⟨Ent.q rfl, Ent.q rfl, Ent.q rfl, trivial⟩ trivial
      · have hp8 := of_decide_eq_false hc7
        rw [if_neg hp8] at hm
        refine W.exit rfl ?_
        have hr15 := Option.some.inj hm
        clear hm
        subst hr15
        have hm := hk5
        try dsimp only at hm
        refine WN.seq ?_
        refine W.sr ?_
        refine WL.op rfl (Op1.assign .bool) ?_
        refine WL.ns ?_
        cases hm
        exact W.ret1 () rfl (.tmp rfl) trivial

theorem law07_AddressUnique_spec (n : Nat) (u : api_Unit) (r : Bool) (hm : M.law07_AddressUnique n u = some r) : FSpecR Tryd.prog 3 [(tapi_Unit.is u)] [(700000, Gl (tA 8 tS) 0 gv0), (700001, Gl (tA 8 (tL (tI .i64))) 1 gv1)] (fun _ : Unit => (tB.is r)) (fun _ => []) := by
  unfold M.law07_AddressUnique at hm
  refine FSpecR.of Tryd.func3 rfl rfl rfl (fun g0 => ?_)
  refine W.sr ?_
  refine WL.op rfl (Op1.box (.tmp rfl)) ?_
  refine WL.op rfl (Op1.assign .bool) ?_
  refine WL.ns ?_
  refine W.seq ?_
  obtain ⟨s1, hs2, hk3⟩ := bind_some hm
  clear hm
  refine W.join (fun s : Bool => s = s1) (fun s => [(32, (tB.is s)), (1, (tapi_Unit.ptr u))]) (fun s => [(700000, Gl (tA 8 tS) 0 gv0), (700001, Gl (tA 8 (tL (tI .i64))) 1 gv1)]) ?_ ?_
  · rintro v hj79
    try dsimp only at hj79
    subst hj79
    have hm := hk3
    clear hk3
    try dsimp only at hm
    change W _ _ _ _ _ _ _ [(32, (tB.is v)), (1, (tapi_Unit.ptr u))] [(700000, Gl (tA 8 tS) 0 gv0), (700001, Gl (tA 8 (tL (tI .i64))) 1 gv1)]
    refine W.cond (.tmp rfl) (fun hc14 => ?_) (fun hc14 => ?_)
    · have hp15 := hc14
      rw [if_pos hp15] at hm
      refine W.sr ?_
      obtain ⟨awake1, hv16, hm⟩ := bind_some hm
      refine WL.op rfl (Op1.call Tryd.call7 (law07_awake_spec _ _ hv16) trivial) ?_
      refine WL.gv rfl rfl ?_
      refine WL.ns ?_
      cases hm
      exact W.ret1 () rfl (.tmp rfl) trivial
    · have hp15 := ne_of_false hc14
      rw [if_neg hp15] at hm
      refine W.skip ?_
      refine WN.seq ?_
      refine W.seq ?_
      refine W.sr ?_
      refine WL.op rfl (Op1.load ty27 (.tmp rfl)) ?_
      obtain ⟨ids, hv17, hm⟩ := bind_some hm
      refine WL.op rfl (Op1.call Tryd.call11 (unit_IDs_spec _ _ _ hv17) ⟨(.tmp rfl), trivial⟩) ?_
      refine WL.op rfl (Op1.lenL Tryd.underlying31 (.tmp rfl)) ?_
      refine WL.op rfl (Op1.move (.int (inR64.2 (by omega)))) ?_
      refine WL.ns ?_
      refine W.block ?_
      obtain ⟨s18, hs19, hk20⟩ := bind_some hm
      clear hm
      refine W.loop (fun m (s : Int × List api_Id × List api_Id × Unit) => m = s.2.2.1.length ∧ ids = s.2.1 ++ s.2.2.1 ∧ s.1 = (s.2.1.length : Int) ∧ M.law07_AddressUnique_loop1 n u s.2.2.1 = some s18) (fun s => [(37, ((tI .i64).is s.1)), (1, (tapi_Unit.ptr u)), (35, ((tL tapi_Id).is ids)), (36, ((tI .i64).is (ids.length : Int)))]) (fun s => [(700000, Gl (tA 8 tS) 0 gv0), (700001, Gl (tA 8 (tL (tI .i64))) 1 gv1)]) ids.length ((0 : Int), [], ids, ()) ⟨rfl, rfl, rfl, hs19⟩ ⟨Ent.q rfl, Ent.q rfl, Ent.q rfl, Ent.q rfl, trivial⟩ ⟨rfl, rfl, ⟨rfl, rfl, trivial⟩⟩ ?_
      rintro m ⟨i, pre, rest1, _⟩ ⟨hn24, hxs21, hi22, hm⟩
      try dsimp only at hn24 hxs21 hi22 hm
      change W _ _ _ _ _ _ _ [(37, ((tI .i64).is i)), (1, (tapi_Unit.ptr u)), (35, ((tL tapi_Id).is ids)), (36, ((tI .i64).is (ids.length : Int)))] [(700000, Gl (tA 8 tS) 0 gv0), (700001, Gl (tA 8 (tL (tI .i64))) 1 gv1)]
      refine W.lenL (s := 35) (.tmp rfl) fun hlen23 => ?_
      refine W.sr ?_
      refine WL.op rfl (Op1.ltI (.tmp rfl) (.tmp rfl)) ?_
      refine WL.ns ?_
      refine W.seq ?_
      refine W.cond (.tmp rfl) (fun hc26 => ?_) (fun hc26 => ?_)
      · have hp27 := of_decide_eq_true hc26
        obtain ⟨e, es, hrest29⟩ := range_more hxs21 hi22 hp27
        subst hrest29
        rw [M.law07_AddressUnique_loop1.eq_2] at hm
        refine W.skip ?_
        refine WN.seq ?_
        refine W.seq ?_
        refine W.block ?_
        refine W.sr ?_
        refine WL.op rfl (Op1.idxPre hxs21 hi22 Tryd.underlying31 Tryd.sizeOf23 (.tmp rfl) (.tmp rfl)) ?_
        refine WL.op rfl (Op1.load ty23 (.tmp rfl)) ?_
        refine WL.opR rfl (OpR.alloc 4 ze23) (fun b => ?_)
        refine WL.opU (OpR.storeB (b := b) 4 Tryd.sizeOf23 (Cellable.is tapi_Id e) rfl (.tmp rfl) (.tmp rfl)) (fun _ => ?_)
        refine WL.sealed (t := tapi_Id) (u := e) 4 4 rfl rfl ?_
        refine WL.nr ?_
        refine WL.op rfl (Op1.load ty27 (.tmp rfl)) ?_
        refine WL.op rfl (Op1.load ty23 (.tmp rfl)) ?_
        obtain ⟨full, hv30, hm⟩ := bind_some hm
        refine WL.op rfl (Op1.call Tryd.call12 (address_Full_spec _ _ _ _ hv30) ⟨(.tmp rfl), (.tmp rfl), trivial⟩) ?_
        refine WL.mv rfl rfl ?_
        refine WL.op rfl (Op1.extract0 (.tmp rfl)) ?_
        refine WL.op rfl (Op1.extract1 (.tmp rfl)) ?_
        refine WL.gv rfl rfl ?_
        refine WL.gv rfl rfl ?_
        refine WL.nr ?_
        refine WL.op rfl (Op1.load ty27 (.tmp rfl)) ?_
        refine WL.op rfl (Op1.load ty23 (.tmp rfl)) ?_
        obtain ⟨shorte, hv31, hm⟩ := bind_some hm
        refine WL.op rfl (Op1.call Tryd.call13 (address_Shortest_spec _ _ _ _ hv31) ⟨(.tmp rfl), (.tmp rfl), trivial⟩) ?_
        refine WL.mv rfl rfl ?_
        refine WL.op rfl (Op1.extract0 (.tmp rfl)) ?_
        refine WL.op rfl (Op1.extract1 (.tmp rfl)) ?_
        refine WL.gv rfl rfl ?_
        refine WL.gv rfl rfl ?_
        refine WL.nr ?_
        refine WL.op rfl (Op1.load ty27 (.tmp rfl)) ?_
        refine WL.mv rfl rfl ?_
        obtain ⟨findon, hv32, hm⟩ := bind_some hm
        refine WL.op rfl (Op1.call Tryd.call14 (address_FindOne_spec _ _ _ _ hv32) ⟨(.tmp rfl), (.tmp rfl), trivial⟩) ?_
        refine WL.mv rfl rfl ?_
        refine WL.op rfl (Op1.extract0 (.tmp rfl)) ?_
        refine WL.op rfl (Op1.extract1 (.tmp rfl)) ?_
        refine WL.opR rfl (OpR.alloc 9 ze23) (fun b1 => ?_)
        refine WL.opU (OpR.storeB (b := b1) 9 Tryd.sizeOf23 (Cellable.is tapi_Id findon.1) rfl (.tmp rfl) (.tmp rfl)) (fun _ => ?_)
        refine WL.sealed (t := tapi_Id) (u := findon.1) 9 9 rfl rfl ?_
        refine WL.gv rfl rfl ?_
        refine WL.nr ?_
        refine WL.op rfl (Op1.load ty27 (.tmp rfl)) ?_
        refine WL.mv rfl rfl ?_
        obtain ⟨findon1, hv33, hm⟩ := bind_some hm
        refine WL.op rfl (Op1.call Tryd.call14 (address_FindOne_spec _ _ _ _ hv33) ⟨(.tmp rfl), (.tmp rfl), trivial⟩) ?_
        refine WL.mv rfl rfl ?_
        refine WL.op rfl (Op1.extract0 (.tmp rfl)) ?_
        refine WL.op rfl (Op1.extract1 (.tmp rfl)) ?_
        refine WL.opR rfl (OpR.alloc 11 ze23) (fun b2 => ?_)
        refine WL.opU (OpR.storeB (b := b2) 11 Tryd.sizeOf23 (Cellable.is tapi_Id findon1.1) rfl (.tmp rfl) (.tmp rfl)) (fun _ => ?_)
        refine WL.sealed (t := tapi_Id) (u := findon1.1) 11 11 rfl rfl ?_
        refine WL.gv rfl rfl ?_
        refine WL.ns ?_
        refine W.seq ?_
        obtain ⟨s34, hs35, hk36⟩ := bind_some hm
        clear hm
        refine W.join (fun s : Bool => s = s34) (fun s => [(100, (tB.is s)), (1, (tapi_Unit.ptr u)), (4, (tapi_Id.ptr e)), (5, ((tL tapi_Step).is full.1)), (7, ((tL tapi_Step).is shorte.1)), (35, ((tL tapi_Id).is ids)), (36, ((tI .i64).is (ids.length : Int))), (37, ((tI .i64).is i))]) (fun s => [(700000, Gl (tA 8 tS) 0 gv0), (700001, Gl (tA 8 (tL (tI .i64))) 1 gv1)]) ?_ ?_
        · rintro v1 hj77
          try dsimp only at hj77
          subst hj77
          have hm := hk36
          clear hk36
          try dsimp only at hm
          change W _ _ _ _ _ _ _ [(100, (tB.is v1)), (1, (tapi_Unit.ptr u)), (4, (tapi_Id.ptr e)), (5, ((tL tapi_Step).is full.1)), (7, ((tL tapi_Step).is shorte.1)), (35, ((tL tapi_Id).is ids)), (36, ((tI .i64).is (ids.length : Int))), (37, ((tI .i64).is i))] [(700000, Gl (tA 8 tS) 0 gv0), (700001, Gl (tA 8 (tL (tI .i64))) 1 gv1)]
          refine W.cond (.tmp rfl) (fun hc51 => ?_) (fun hc51 => ?_)
          · have hp52 := hc51
            rw [if_pos hp52] at hm
            refine W.sr ?_
            refine WL.op rfl (Op1.assign .bool) ?_
            refine WL.ns ?_
            have hr53 := Option.some.inj hm
            clear hm
            subst hr53
            have hm := hk20
            try dsimp only at hm
            cases hm
            exact W.ret1 () rfl (.tmp rfl) trivial
          · have hp52 := ne_of_false hc51
            rw [if_neg hp52] at hm
            refine W.skip ?_
            refine WN.seq ?_
            refine W.seq ?_
            refine W.sr ?_
            refine WL.mv rfl rfl ?_
            refine WL.mv rfl rfl ?_
            refine WL.mv rfl rfl ?_
            refine WL.op rfl (Op1.lenL Tryd.underlying33 (.tmp rfl)) ?_
            refine WL.mv rfl rfl ?_
            refine WL.op rfl (Op1.lenL Tryd.underlying33 (.tmp rfl)) ?_
            obtain ⟨v2, hv54, hm⟩ := bind_some hm
            refine WL.op rfl (Op1.subC hv54 (.tmp rfl) (.tmp rfl)) ?_
            obtain ⟨v3, hv55, hm⟩ := bind_some hm
            refine WL.op rfl (Op1.slcLo hv55 Tryd.underlying33 Tryd.sizeOf41 (.tmp rfl) (.tmp rfl)) ?_
            obtain ⟨same, hv56, hm⟩ := bind_some hm
            refine WL.op rfl (Op1.call Tryd.call15 (r07_Same_spec _ _ _ _ hv56) ⟨(.tmp rfl), (.tmp rfl), trivial⟩) ?_
            refine WL.op rfl (Op1.notB (.tmp rfl)) ?_
            refine WL.ns ?_
            refine W.cond (.tmp rfl) (fun hc57 => ?_) (fun hc57 => ?_)
            · have hp58 := not_pos hc57
              rw [if_pos hp58] at hm
              refine W.sr ?_
              refine WL.op rfl (Op1.assign .bool) ?_
              refine WL.ns ?_
              have hr59 := Option.some.inj hm
              clear hm
              subst hr59
              have hm := hk20
              try dsimp only at hm
              cases hm
              exact W.ret1 () rfl (.tmp rfl) trivial
            · have hp58 := not_neg hc57
              rw [if_neg hp58] at hm
              refine W.skip ?_
              refine WN.seq ?_
              refine W.sr ?_
              refine WL.op rfl (Op1.assign (.int (inR64.2 (by omega)))) ?_
              refine WL.ns ?_
              refine W.block ?_
              obtain ⟨s60, hs61, hk62⟩ := bind_some hm
              clear hm
              refine W.loop (fun m (s : Int) => M.law07_AddressUnique_loop2 u e shorte m s = some s60) (fun s => [(13, ((tI .i64).is s)), (1, (tapi_Unit.ptr u)), (4, (tapi_Id.ptr e)), (7, ((tL tapi_Step).is shorte.1)), (35, ((tL tapi_Id).is ids)), (36, ((tI .i64).is (ids.length : Int))), (37, ((tI .i64).is i))]) (fun s => [(700000, Gl (tA 8 tS) 0 gv0), (700001, Gl (tA 8 (tL (tI .i64))) 1 gv1)]) _ (1 : Int) hs61 ⟨Ent.q rfl, Ent.q rfl, Ent.q rfl, Ent.q rfl, Ent.q rfl, Ent.q rfl, Ent.q rfl, trivial⟩ ⟨rfl, rfl, ⟨rfl, rfl, trivial⟩⟩ ?_
              rintro n63 n0_ hm
              try dsimp only at hm
              change W _ _ _ _ _ _ _ [(13, ((tI .i64).is n0_)), (1, (tapi_Unit.ptr u)), (4, (tapi_Id.ptr e)), (7, ((tL tapi_Step).is shorte.1)), (35, ((tL tapi_Id).is ids)), (36, ((tI .i64).is (ids.length : Int))), (37, ((tI .i64).is i))] [(700000, Gl (tA 8 tS) 0 gv0), (700001, Gl (tA 8 (tL (tI .i64))) 1 gv1)]
              cases n63 with
              | zero => rw [M.law07_AddressUnique_loop2.eq_1] at hm; cases hm
              | succ n63 =>
                rw [M.law07_AddressUnique_loop2.eq_2] at hm
                refine W.seq ?_
                refine W.sr ?_
                refine WL.mv rfl rfl ?_
                refine WL.mv rfl rfl ?_
                refine WL.op rfl (Op1.lenL Tryd.underlying33 (.tmp rfl)) ?_
                refine WL.op rfl (Op1.ltI (.tmp rfl) (.tmp rfl)) ?_
                refine WL.ns ?_
                refine W.cond (.tmp rfl) (fun hc64 => ?_) (fun hc64 => ?_)
                · have hp65 := of_decide_eq_true hc64
                  rw [if_pos hp65] at hm
                  refine W.skip ?_
                  refine WN.seq ?_
                  refine W.seq ?_
                  refine W.block ?_
                  refine W.seq ?_
                  obtain ⟨v4, hv66, hm⟩ := bind_some hm
                  obtain ⟨findon2, hv67, hm⟩ := bind_some hm
                  refine W.weakR (res' := [(700000, Gl (tA 8 tS) 0 gv0), (700001, Gl (tA 8 (tL (tI .i64))) 1 gv1)]) ⟨rfl, rfl, ⟨rfl, rfl, trivial⟩⟩ ?_
                  refine W.drawM [.c (tapi_Unit.is u), .c ((tL tapi_Step).is shorte.1), .c ((tI .i64).is n0_), .c ((tL tapi_Step).is v4), .c (Asn.tuple2 (tapi_Id.is findon2.1) ((tI .i64).is findon2.2)), .c (Asn.tuple2 (tapi_Id.is findon2.1) ((tI .i64).is findon2.2)), .c (tapi_Id.is findon2.1), .c ((tI .i64).is findon2.2), .f (fun cv => (Bp (bk (cv 0)) 0)), .c Asn.any, .c ((tI .i64).is findon2.2)] [([], [1]), ([], [7]), ([], [13]), ([1, 2], []), ([0, 3], []), ([4], []), ([5], []), ([5], []), ([], []), ([6, 8], []), ([7], [])] [8, 9] [[], [], [], [], [], [], [], [], [true], [], []] (fun m cv => match m with | 0 => [(700000, Gl (tA 8 tS) 0 gv0), (700001, Gl (tA 8 (tL (tI .i64))) 1 gv1)] | 1 => [(14, (Bx 3 true 23 (tapi_Id.is zapi_Id) (bk (cv 0)))), (700000, Gl (tA 8 tS) 0 gv0), (700001, Gl (tA 8 (tL (tI .i64))) 1 gv1)] | _ => [(14, (Bx 3 true 23 (tapi_Id.is findon2.1) (bk (cv 0)))), (700000, Gl (tA 8 tS) 0 gv0), (700001, Gl (tA 8 (tL (tI .i64))) 1 gv1)]) (fun _ => none) Tryd.mixed rfl rfl rfl rfl rfl ⟨fun _ _ _ _ => rfl, ⟨fun _ _ _ _ => rfl, ⟨fun _ _ _ _ => rfl, ⟨fun _ _ _ _ => rfl, ⟨fun _ _ _ _ => rfl, ⟨fun _ _ _ _ => rfl, ⟨fun _ _ _ _ => rfl, ⟨fun _ _ _ _ => rfl, ⟨fun m hm c t => by simp only [DA.at, upd_dep (r := [true]) (j := 0) rfl hm], ⟨fun _ _ _ _ => rfl, ⟨fun _ _ _ _ => rfl, trivial⟩⟩⟩⟩⟩⟩⟩⟩⟩⟩⟩ rfl ⟨.inr ⟨fun cv => [], (fun _ _ _ _ => trivial), fun cv => Op1.load ty27 (.tmp rfl)⟩, ⟨.inr ⟨fun cv => [], (fun _ _ _ _ => trivial), fun cv => Op1.move (.tmp rfl)⟩, ⟨.inr ⟨fun cv => [], (fun _ _ _ _ => trivial), fun cv => Op1.move (.tmp rfl)⟩, ⟨.inr ⟨fun cv => [], (fun _ _ _ _ => trivial), fun cv => Op1.slcLo hv66 Tryd.underlying33 Tryd.sizeOf41 (.tmp rfl) (.tmp rfl)⟩, ⟨.inr ⟨fun cv => [], (fun _ _ _ _ => trivial), fun cv => Op1.call Tryd.call14 (address_FindOne_spec _ _ _ _ hv67) ⟨(.tmp rfl), (.tmp rfl), trivial⟩⟩, ⟨.inr ⟨fun cv => [], (fun _ _ _ _ => trivial), fun cv => Op1.move (.tmp rfl)⟩, ⟨.inr ⟨fun cv => [], (fun _ _ _ _ => trivial), fun cv => Op1.extract0 (.tmp rfl)⟩, ⟨.inr ⟨fun cv => [], (fun _ _ _ _ => trivial), fun cv => Op1.extract1 (.tmp rfl)⟩, ⟨.inl rfl, ⟨.inl rfl, ⟨.inr ⟨fun cv => [], (fun _ _ _ _ => trivial), fun cv => Op1.assign (.tmp rfl)⟩, trivial⟩⟩⟩⟩⟩⟩⟩⟩⟩⟩⟩ ⟨⟨_, _, _, [], (fun cv => [(14, (Bx 3 true 23 (tapi_Id.is zapi_Id) (bk (cv 0))))]), rfl, rfl, rfl, rfl, fun _ => rfl, fun _ _ => rfl, fun cv => OpR.viaB (OpR.alloc 14 ze23)⟩, ⟨⟨_, _, _, [14], (fun cv => [(14, (Bx 3 true 23 (tapi_Id.is findon2.1) (bk (cv 0))))]), rfl, rfl, rfl, rfl, fun _ => rfl, fun _ _ => rfl, fun cv => OpR.viaU (OpR.storeB (b := (bk (cv 0))) 14 Tryd.sizeOf23 (Cellable.is tapi_Id findon2.1) rfl (.tmp rfl) (.tmp rfl))⟩, trivial⟩⟩ (fun cv => ?_)
                  refine WN.seq ?_
                  refine W.sr ?_
                  refine WL.mv rfl rfl ?_
                  refine WL.op rfl (Op1.eqI (.tmp rfl) (.int (inR64.2 (by omega)))) ?_
                  refine WL.mv rfl rfl ?_
                  rcases bcases (decide (findon2.2 = (0 : Int))) with hb68 | hb68
                  · have hp69 := of_decide_eq_true hb68
                    rw [if_pos hp69] at hm
                    refine WL.run rfl rfl rfl rfl hb68 rfl rfl (Op1.loadB 14 Tryd.isAgg23 Tryd.sizeOf23 rfl (.tmp rfl)) ?_
                    refine WL.run rfl rfl rfl rfl hb68 rfl rfl (Op1.load ty23 (.tmp rfl)) ?_
                    refine WL.run rfl rfl rfl rfl hb68 rfl rfl (Op1.eqSt (D := 2) rfl (by decide) eg23 eq23 (.tmp rfl) (.tmp rfl)) ?_
                    refine WL.op rfl (Op1.pickT (.tmp rfl) hb68 (.tmp rfl)) ?_
                    refine WL.ns ?_
                    refine W.cond (.tmp rfl) (fun hc70 => ?_) (fun hc70 => ?_)
                    · have hp71 := of_decide_eq_true hc70
                      rw [if_pos hp71] at hm
                      refine W.sr ?_
                      refine WL.op rfl (Op1.assign .bool) ?_
                      refine WL.ns ?_
                      have hr72 := Option.some.inj hm
                      clear hm
                      subst hr72
                      have hm := hk62
                      try dsimp only at hm
                      have hr73 := Option.some.inj hm
                      clear hm
                      subst hr73
                      have hm := hk20
                      try dsimp only at hm
                      cases hm
                      exact W.ret1 () rfl (.tmp rfl) trivial
                    · have hp71 := of_decide_eq_false hc70
                      rw [if_neg hp71] at hm
                      refine W.skip ?_
                      refine WN.block ?_
                      refine WN.seq ?_
                      refine W.region ?_
                      refine WL.mv rfl rfl ?_
                      refine WL.lenL (s := 7) (.tmp rfl) fun hl74 => ?_
                      refine WL.op rfl (Op1.addI1 (.tmp rfl) (.int (inR64.2 (by omega))) hp65 hl74) ?_
                      refine WL.gv rfl rfl ?_
                      refine WL.nil ?_
                      exact WN.again n63 (n0_ + 1) (Nat.lt_succ_self n63) hm ⟨Ent.q rfl, Ent.q rfl, Ent.q rfl, Ent.q rfl, Ent.q rfl, Ent.q rfl, Ent.q rfl, trivial⟩ ⟨rfl, rfl, ⟨rfl, rfl, trivial⟩⟩
                  · have hp69 := of_decide_eq_false hb68
                    rw [if_neg hp69] at hm
                    refine WL.pass rfl rfl rfl rfl hb68 rfl rfl ?_
                    refine WL.pass rfl rfl rfl rfl hb68 rfl rfl ?_
                    refine WL.pass rfl rfl rfl rfl hb68 rfl rfl ?_
                    refine WL.op rfl (Op1.pickF (.tmp rfl) hb68 .bool) ?_
                    refine WL.ns ?_
                    refine W.condF (.tmp rfl) ?_
                    refine W.skip ?_
                    refine WN.block ?_
                    refine WN.seq ?_
                    refine W.region ?_
                    refine WL.mv rfl rfl ?_
                    refine WL.lenL (s := 7) (.tmp rfl) fun hl75 => ?_
                    refine WL.op rfl (Op1.addI1 (.tmp rfl) (.int (inR64.2 (by omega))) hp65 hl75) ?_
                    refine WL.gv rfl rfl ?_
                    refine WL.nil ?_
                    exact WN.again n63 (n0_ + 1) (Nat.lt_succ_self n63) hm ⟨Ent.q rfl, Ent.q rfl, Ent.q rfl, Ent.q rfl, Ent.q rfl, Ent.q rfl, Ent.q rfl, trivial⟩ ⟨rfl, rfl, ⟨rfl, rfl, trivial⟩⟩
                · have hp65 := of_decide_eq_false hc64
                  rw [if_neg hp65] at hm
                  refine W.exit rfl ?_
                  have hr76 := Option.some.inj hm
                  clear hm
                  subst hr76
                  have hm := hk62
                  try dsimp only at hm
                  refine WN.block ?_
                  refine WN.seq ?_
                  refine W.region ?_
                  refine WL.op rfl (Op1.addI (.tmp rfl) (.int (inR64.2 (by omega))) (range_inR hi22 hp27 hlen23)) ?_
                  refine WL.mv rfl rfl ?_
                  refine WL.nil ?_
                  exact WN.again es.length (i + 1, pre ++ [e], es, ()) (range_lt hn24) ⟨rfl, range_step hxs21, range_idx hi22, hm⟩ ⟨Ent.q rfl, Ent.q rfl, Ent.q rfl, Ent.q rfl, trivial⟩ ⟨rfl, rfl, ⟨rfl, rfl, trivial⟩⟩
        · have hm := hs35
          clear hs35
          refine W.region ?_
          refine WL.mv rfl rfl ?_
          refine WL.op rfl (Op1.notB (.tmp rfl)) ?_
          refine WL.mv rfl rfl ?_
          rcases bcases (!full.2) with hb37 | hb37
          · have hp38 := not_pos hb37
            rw [if_pos hp38] at hm
            refine WL.pass rfl rfl rfl rfl hb37 rfl rfl ?_
            refine WL.pass rfl rfl rfl rfl hb37 rfl rfl ?_
            refine WL.op rfl (Op1.pickT (.tmp rfl) hb37 .bool) ?_
            refine WL.mv rfl rfl ?_
            refine WL.pass rfl rfl rfl rfl rfl rfl rfl ?_
            refine WL.pass rfl rfl rfl rfl rfl rfl rfl ?_
            refine WL.op rfl (Op1.pickT (.tmp rfl) rfl .bool) ?_
            refine WL.mv rfl rfl ?_
            refine WL.pass rfl rfl rfl rfl rfl rfl rfl ?_
            refine WL.pass rfl rfl rfl rfl rfl rfl rfl ?_
            refine WL.op rfl (Op1.pickT (.tmp rfl) rfl .bool) ?_
            refine WL.mv rfl rfl ?_
            refine WL.pass rfl rfl rfl rfl rfl rfl rfl ?_
            refine WL.pass rfl rfl rfl rfl rfl rfl rfl ?_
            refine WL.pass rfl rfl rfl rfl rfl rfl rfl ?_
            refine WL.op rfl (Op1.pickT (.tmp rfl) rfl .bool) ?_
            refine WL.mv rfl rfl ?_
            refine WL.pass rfl rfl rfl rfl rfl rfl rfl ?_
            refine WL.pass rfl rfl rfl rfl rfl rfl rfl ?_
            refine WL.pass rfl rfl rfl rfl rfl rfl rfl ?_
            refine WL.op rfl (Op1.pickT (.tmp rfl) rfl .bool) ?_
            refine WL.mv rfl rfl ?_
            refine WL.pass rfl rfl rfl rfl rfl rfl rfl ?_
            refine WL.pass rfl rfl rfl rfl rfl rfl rfl ?_
            refine WL.pass rfl rfl rfl rfl rfl rfl rfl ?_
            refine WL.pass rfl rfl rfl rfl rfl rfl rfl ?_
            refine WL.pass rfl rfl rfl rfl rfl rfl rfl ?_
            refine WL.op rfl (Op1.pickT (.tmp rfl) rfl .bool) ?_
            refine WL.mv rfl rfl ?_
            refine WL.pass rfl rfl rfl rfl rfl rfl rfl ?_
            refine WL.pass rfl rfl rfl rfl rfl rfl rfl ?_
            refine WL.pass rfl rfl rfl rfl rfl rfl rfl ?_
            refine WL.op rfl (Op1.pickT (.tmp rfl) rfl .bool) ?_
            refine WL.nil ?_
            exact WN.meet true (Option.some.inj hm) ⟨Ent.q rfl, Ent.q rfl, Ent.q rfl, Ent.q rfl, Ent.q rfl, Ent.q rfl, Ent.q rfl, Ent.q rfl, trivial⟩ ⟨rfl, rfl, ⟨rfl, rfl, trivial⟩⟩
          · have hp38 := not_neg hb37
            rw [if_neg hp38] at hm
            refine WL.run rfl rfl rfl rfl hb37 rfl rfl (Op1.move (.tmp rfl)) ?_
            refine WL.run rfl rfl rfl rfl hb37 rfl rfl (Op1.notB (.tmp rfl)) ?_
            refine WL.op rfl (Op1.pickF (.tmp rfl) hb37 (.tmp rfl)) ?_
            refine WL.mv rfl rfl ?_
            rcases bcases (!shorte.2) with hb39 | hb39
            · have hp40 := not_pos hb39
              rw [if_pos hp40] at hm
              refine WL.pass rfl rfl rfl rfl hb39 rfl rfl ?_
              refine WL.pass rfl rfl rfl rfl hb39 rfl rfl ?_
              refine WL.op rfl (Op1.pickT (.tmp rfl) hb39 .bool) ?_
              refine WL.mv rfl rfl ?_
              refine WL.pass rfl rfl rfl rfl rfl rfl rfl ?_
              refine WL.pass rfl rfl rfl rfl rfl rfl rfl ?_
              refine WL.op rfl (Op1.pickT (.tmp rfl) rfl .bool) ?_
              refine WL.mv rfl rfl ?_
              refine WL.pass rfl rfl rfl rfl rfl rfl rfl ?_
              refine WL.pass rfl rfl rfl rfl rfl rfl rfl ?_
              refine WL.pass rfl rfl rfl rfl rfl rfl rfl ?_
              refine WL.op rfl (Op1.pickT (.tmp rfl) rfl .bool) ?_
              refine WL.mv rfl rfl ?_
              refine WL.pass rfl rfl rfl rfl rfl rfl rfl ?_
              refine WL.pass rfl rfl rfl rfl rfl rfl rfl ?_
              refine WL.pass rfl rfl rfl rfl rfl rfl rfl ?_
              refine WL.op rfl (Op1.pickT (.tmp rfl) rfl .bool) ?_
              refine WL.mv rfl rfl ?_
              refine WL.pass rfl rfl rfl rfl rfl rfl rfl ?_
              refine WL.pass rfl rfl rfl rfl rfl rfl rfl ?_
              refine WL.pass rfl rfl rfl rfl rfl rfl rfl ?_
              refine WL.pass rfl rfl rfl rfl rfl rfl rfl ?_
              refine WL.pass rfl rfl rfl rfl rfl rfl rfl ?_
              refine WL.op rfl (Op1.pickT (.tmp rfl) rfl .bool) ?_
              refine WL.mv rfl rfl ?_
              refine WL.pass rfl rfl rfl rfl rfl rfl rfl ?_
              refine WL.pass rfl rfl rfl rfl rfl rfl rfl ?_
              refine WL.pass rfl rfl rfl rfl rfl rfl rfl ?_
              refine WL.op rfl (Op1.pickT (.tmp rfl) rfl .bool) ?_
              refine WL.nil ?_
              exact WN.meet true (Option.some.inj hm) ⟨Ent.q rfl, Ent.q rfl, Ent.q rfl, Ent.q rfl, Ent.q rfl, Ent.q rfl, Ent.q rfl, Ent.q rfl, trivial⟩ ⟨rfl, rfl, ⟨rfl, rfl, trivial⟩⟩
            · have hp40 := not_neg hb39
              rw [if_neg hp40] at hm
              refine WL.run rfl rfl rfl rfl hb39 rfl rfl (Op1.move (.tmp rfl)) ?_
              refine WL.run rfl rfl rfl rfl hb39 rfl rfl (Op1.neI (.tmp rfl) (.int (inR64.2 (by omega)))) ?_
              refine WL.op rfl (Op1.pickF (.tmp rfl) hb39 (.tmp rfl)) ?_
              refine WL.mv rfl rfl ?_
              rcases bcases (decide (findon.2 ≠ (0 : Int))) with hb41 | hb41
              · have hp42 := of_decide_eq_true hb41
                rw [if_pos hp42] at hm
                refine WL.pass rfl rfl rfl rfl hb41 rfl rfl ?_
                refine WL.pass rfl rfl rfl rfl hb41 rfl rfl ?_
                refine WL.op rfl (Op1.pickT (.tmp rfl) hb41 .bool) ?_
                refine WL.mv rfl rfl ?_
                refine WL.pass rfl rfl rfl rfl rfl rfl rfl ?_
                refine WL.pass rfl rfl rfl rfl rfl rfl rfl ?_
                refine WL.pass rfl rfl rfl rfl rfl rfl rfl ?_
                refine WL.op rfl (Op1.pickT (.tmp rfl) rfl .bool) ?_
                refine WL.mv rfl rfl ?_
                refine WL.pass rfl rfl rfl rfl rfl rfl rfl ?_
                refine WL.pass rfl rfl rfl rfl rfl rfl rfl ?_
                refine WL.pass rfl rfl rfl rfl rfl rfl rfl ?_
                refine WL.op rfl (Op1.pickT (.tmp rfl) rfl .bool) ?_
                refine WL.mv rfl rfl ?_
                refine WL.pass rfl rfl rfl rfl rfl rfl rfl ?_
                refine WL.pass rfl rfl rfl rfl rfl rfl rfl ?_
                refine WL.pass rfl rfl rfl rfl rfl rfl rfl ?_
                refine WL.pass rfl rfl rfl rfl rfl rfl rfl ?_
                refine WL.pass rfl rfl rfl rfl rfl rfl rfl ?_
                refine WL.op rfl (Op1.pickT (.tmp rfl) rfl .bool) ?_
                refine WL.mv rfl rfl ?_
                refine WL.pass rfl rfl rfl rfl rfl rfl rfl ?_
                refine WL.pass rfl rfl rfl rfl rfl rfl rfl ?_
                refine WL.pass rfl rfl rfl rfl rfl rfl rfl ?_
                refine WL.op rfl (Op1.pickT (.tmp rfl) rfl .bool) ?_
                refine WL.nil ?_
                exact WN.meet true (Option.some.inj hm) ⟨Ent.q rfl, Ent.q rfl, Ent.q rfl, Ent.q rfl, Ent.q rfl, Ent.q rfl, Ent.q rfl, Ent.q rfl, trivial⟩ ⟨rfl, rfl, ⟨rfl, rfl, trivial⟩⟩
              · have hp42 := of_decide_eq_false hb41
                rw [if_neg hp42] at hm
                refine WL.run rfl rfl rfl rfl hb41 rfl rfl (Op1.move (.tmp rfl)) ?_
                refine WL.run rfl rfl rfl rfl hb41 rfl rfl (Op1.neI (.tmp rfl) (.int (inR64.2 (by omega)))) ?_
                refine WL.op rfl (Op1.pickF (.tmp rfl) hb41 (.tmp rfl)) ?_
                refine WL.mv rfl rfl ?_
                rcases bcases (decide (findon1.2 ≠ (0 : Int))) with hb43 | hb43
                · have hp44 := of_decide_eq_true hb43
                  rw [if_pos hp44] at hm
                  refine WL.pass rfl rfl rfl rfl hb43 rfl rfl ?_
                  refine WL.pass rfl rfl rfl rfl hb43 rfl rfl ?_
                  refine WL.pass rfl rfl rfl rfl hb43 rfl rfl ?_
                  refine WL.op rfl (Op1.pickT (.tmp rfl) hb43 .bool) ?_
                  refine WL.mv rfl rfl ?_
                  refine WL.pass rfl rfl rfl rfl rfl rfl rfl ?_
                  refine WL.pass rfl rfl rfl rfl rfl rfl rfl ?_
                  refine WL.pass rfl rfl rfl rfl rfl rfl rfl ?_
                  refine WL.op rfl (Op1.pickT (.tmp rfl) rfl .bool) ?_
                  refine WL.mv rfl rfl ?_
                  refine WL.pass rfl rfl rfl rfl rfl rfl rfl ?_
                  refine WL.pass rfl rfl rfl rfl rfl rfl rfl ?_
                  refine WL.pass rfl rfl rfl rfl rfl rfl rfl ?_
                  refine WL.pass rfl rfl rfl rfl rfl rfl rfl ?_
                  refine WL.pass rfl rfl rfl rfl rfl rfl rfl ?_
                  refine WL.op rfl (Op1.pickT (.tmp rfl) rfl .bool) ?_
                  refine WL.mv rfl rfl ?_
                  refine WL.pass rfl rfl rfl rfl rfl rfl rfl ?_
                  refine WL.pass rfl rfl rfl rfl rfl rfl rfl ?_
                  refine WL.pass rfl rfl rfl rfl rfl rfl rfl ?_
                  refine WL.op rfl (Op1.pickT (.tmp rfl) rfl .bool) ?_
                  refine WL.nil ?_
                  exact WN.meet true (Option.some.inj hm) ⟨Ent.q rfl, Ent.q rfl, Ent.q rfl, Ent.q rfl, Ent.q rfl, Ent.q rfl, Ent.q rfl, Ent.q rfl, trivial⟩ ⟨rfl, rfl, ⟨rfl, rfl, trivial⟩⟩
                · have hp44 := of_decide_eq_false hb43
                  rw [if_neg hp44] at hm
                  refine WL.run rfl rfl rfl rfl hb43 rfl rfl (Op1.load ty23 (.tmp rfl)) ?_
                  refine WL.run rfl rfl rfl rfl hb43 rfl rfl (Op1.load ty23 (.tmp rfl)) ?_
                  refine WL.run rfl rfl rfl rfl hb43 rfl rfl (Op1.neSt (D := 2) rfl (by decide) eg23 eq23 (.tmp rfl) (.tmp rfl)) ?_
                  refine WL.op rfl (Op1.pickF (.tmp rfl) hb43 (.tmp rfl)) ?_
                  refine WL.mv rfl rfl ?_
                  rcases bcases (decide (findon.1 ≠ e)) with hb45 | hb45
                  · have hp46 := of_decide_eq_true hb45
                    rw [if_pos hp46] at hm
                    refine WL.pass rfl rfl rfl rfl hb45 rfl rfl ?_
                    refine WL.pass rfl rfl rfl rfl hb45 rfl rfl ?_
                    refine WL.pass rfl rfl rfl rfl hb45 rfl rfl ?_
                    refine WL.op rfl (Op1.pickT (.tmp rfl) hb45 .bool) ?_
                    refine WL.mv rfl rfl ?_
                    refine WL.pass rfl rfl rfl rfl rfl rfl rfl ?_
                    refine WL.pass rfl rfl rfl rfl rfl rfl rfl ?_
                    refine WL.pass rfl rfl rfl rfl rfl rfl rfl ?_
                    refine WL.pass rfl rfl rfl rfl rfl rfl rfl ?_
                    refine WL.pass rfl rfl rfl rfl rfl rfl rfl ?_
                    refine WL.op rfl (Op1.pickT (.tmp rfl) rfl .bool) ?_
                    refine WL.mv rfl rfl ?_
                    refine WL.pass rfl rfl rfl rfl rfl rfl rfl ?_
                    refine WL.pass rfl rfl rfl rfl rfl rfl rfl ?_
                    refine WL.pass rfl rfl rfl rfl rfl rfl rfl ?_
                    refine WL.op rfl (Op1.pickT (.tmp rfl) rfl .bool) ?_
                    refine WL.nil ?_
                    exact WN.meet true (Option.some.inj hm) ⟨Ent.q rfl, Ent.q rfl, Ent.q rfl, Ent.q rfl, Ent.q rfl, Ent.q rfl, Ent.q rfl, Ent.q rfl, trivial⟩ ⟨rfl, rfl, ⟨rfl, rfl, trivial⟩⟩
                  · have hp46 := of_decide_eq_false hb45
                    rw [if_neg hp46] at hm
                    refine WL.run rfl rfl rfl rfl hb45 rfl rfl (Op1.load ty23 (.tmp rfl)) ?_
                    refine WL.run rfl rfl rfl rfl hb45 rfl rfl (Op1.load ty23 (.tmp rfl)) ?_
                    refine WL.run rfl rfl rfl rfl hb45 rfl rfl (Op1.neSt (D := 2) rfl (by decide) eg23 eq23 (.tmp rfl) (.tmp rfl)) ?_
                    refine WL.op rfl (Op1.pickF (.tmp rfl) hb45 (.tmp rfl)) ?_
                    refine WL.mv rfl rfl ?_
                    rcases bcases (decide (findon1.1 ≠ e)) with hb47 | hb47
                    · have hp48 := of_decide_eq_true hb47
                      rw [if_pos hp48] at hm
                      refine WL.pass rfl rfl rfl rfl hb47 rfl rfl ?_
                      refine WL.pass rfl rfl rfl rfl hb47 rfl rfl ?_
                      refine WL.pass rfl rfl rfl rfl hb47 rfl rfl ?_
                      refine WL.pass rfl rfl rfl rfl hb47 rfl rfl ?_
                      refine WL.pass rfl rfl rfl rfl hb47 rfl rfl ?_
                      refine WL.op rfl (Op1.pickT (.tmp rfl) hb47 .bool) ?_
                      refine WL.mv rfl rfl ?_
                      refine WL.pass rfl rfl rfl rfl rfl rfl rfl ?_
                      refine WL.pass rfl rfl rfl rfl rfl rfl rfl ?_
                      refine WL.pass rfl rfl rfl rfl rfl rfl rfl ?_
                      refine WL.op rfl (Op1.pickT (.tmp rfl) rfl .bool) ?_
                      refine WL.nil ?_
                      exact WN.meet true (Option.some.inj hm) ⟨Ent.q rfl, Ent.q rfl, Ent.q rfl, Ent.q rfl, Ent.q rfl, Ent.q rfl, Ent.q rfl, Ent.q rfl, trivial⟩ ⟨rfl, rfl, ⟨rfl, rfl, trivial⟩⟩
                    · have hp48 := of_decide_eq_false hb47
                      rw [if_neg hp48] at hm
                      refine WL.run rfl rfl rfl rfl hb47 rfl rfl (Op1.move (.tmp rfl)) ?_
                      refine WL.run rfl rfl rfl rfl hb47 rfl rfl (Op1.lenL Tryd.underlying33 (.tmp rfl)) ?_
                      refine WL.run rfl rfl rfl rfl hb47 rfl rfl (Op1.move (.tmp rfl)) ?_
                      refine WL.run rfl rfl rfl rfl hb47 rfl rfl (Op1.lenL Tryd.underlying33 (.tmp rfl)) ?_
                      refine WL.run rfl rfl rfl rfl hb47 rfl rfl (Op1.gtI (.tmp rfl) (.tmp rfl)) ?_
                      refine WL.op rfl (Op1.pickF (.tmp rfl) hb47 (.tmp rfl)) ?_
                      refine WL.mv rfl rfl ?_
                      rcases bcases (decide ((full.1.length : Int) < (shorte.1.length : Int))) with hb49 | hb49
                      · have hp50 := of_decide_eq_true hb49
                        rw [if_pos hp50] at hm
                        refine WL.pass rfl rfl rfl rfl hb49 rfl rfl ?_
                        refine WL.pass rfl rfl rfl rfl hb49 rfl rfl ?_
                        refine WL.pass rfl rfl rfl rfl hb49 rfl rfl ?_
                        refine WL.op rfl (Op1.pickT (.tmp rfl) hb49 .bool) ?_
                        refine WL.nil ?_
                        exact WN.meet true (Option.some.inj hm) ⟨Ent.q rfl, Ent.q rfl, Ent.q rfl, Ent.q rfl, Ent.q rfl, Ent.q rfl, Ent.q rfl, Ent.q rfl, trivial⟩ ⟨rfl, rfl, ⟨rfl, rfl, trivial⟩⟩
                      · have hp50 := of_decide_eq_false hb49
                        rw [if_neg hp50] at hm
                        refine WL.run rfl rfl rfl rfl hb49 rfl rfl (Op1.move (.tmp rfl)) ?_
                        refine WL.run rfl rfl rfl rfl hb49 rfl rfl (Op1.lenL Tryd.underlying33 (.tmp rfl)) ?_
                        refine WL.run rfl rfl rfl rfl hb49 rfl rfl (Op1.ltI (.tmp rfl) (.int (inR64.2 (by omega)))) ?_
                        refine WL.op rfl (Op1.pickF (.tmp rfl) hb49 (.tmp rfl)) ?_
                        refine WL.nil ?_
                        exact WN.meet (decide ((shorte.1.length : Int) < (1 : Int))) (Option.some.inj hm) ⟨Ent.q rfl, Ent.q rfl, Ent.q rfl, Ent.q rfl, Ent.q rfl, Ent.q rfl, Ent.q rfl, Ent.q rfl, trivial⟩ ⟨rfl, rfl, ⟨rfl, rfl, trivial⟩⟩
      · have hrest29 := range_end hxs21 hi22 (of_decide_eq_false hc26)
        subst hrest29
        rw [M.law07_AddressUnique_loop1.eq_1] at hm
        refine W.exit rfl ?_
        have hr78 := Option.some.inj hm
        clear hm
        subst hr78
        have hm := hk20
        try dsimp only at hm
        refine WN.seq ?_
        refine W.sr ?_
        refine WL.op rfl (Op1.assign .bool) ?_
        refine WL.ns ?_
        cases hm
        exact W.ret1 () rfl (.tmp rfl) trivial
  · have hm := hs2
    clear hs2
    refine W.region ?_
    obtain ⟨awake, hv4, hm⟩ := bind_some hm
    refine WL.op rfl (Op1.call Tryd.call7 (law07_awake_spec _ _ hv4) trivial) ?_
    refine WL.op rfl (Op1.notB (.tmp rfl)) ?_
    refine WL.mv rfl rfl ?_
    rcases bcases (!awake) with hb5 | hb5
    · have hp6 := not_pos hb5
      rw [if_pos hp6] at hm
      refine WL.pass rfl rfl rfl rfl hb5 rfl rfl ?_
      refine WL.pass rfl rfl rfl rfl hb5 rfl rfl ?_
      refine WL.pass rfl rfl rfl rfl hb5 rfl rfl ?_
      refine WL.op rfl (Op1.pickT (.tmp rfl) hb5 .bool) ?_
      refine WL.mv rfl rfl ?_
      refine WL.pass rfl rfl rfl rfl rfl rfl rfl ?_
      refine WL.pass rfl rfl rfl rfl rfl rfl rfl ?_
      refine WL.pass rfl rfl rfl rfl rfl rfl rfl ?_
      refine WL.op rfl (Op1.pickT (.tmp rfl) rfl .bool) ?_
      refine WL.mv rfl rfl ?_
      refine WL.pass rfl rfl rfl rfl rfl rfl rfl ?_
      refine WL.pass rfl rfl rfl rfl rfl rfl rfl ?_
      refine WL.pass rfl rfl rfl rfl rfl rfl rfl ?_
      refine WL.op rfl (Op1.pickT (.tmp rfl) rfl .bool) ?_
      refine WL.nil ?_
      exact WN.meet true (Option.some.inj hm) ⟨Ent.q rfl, Ent.q rfl, trivial⟩ ⟨rfl, rfl, ⟨rfl, rfl, trivial⟩⟩
    · have hp6 := not_neg hb5
      rw [if_neg hp6] at hm
      refine WL.run rfl rfl rfl rfl hb5 rfl rfl (Op1.load ty27 (.tmp rfl)) ?_
      obtain ⟨few, hv7, hm⟩ := bind_some hm
      refine WL.run rfl rfl rfl rfl hb5 rfl rfl (Op1.call Tryd.call8 (r07_Few_spec _ _ _ _ hv7) ⟨(.tmp rfl), (.int (inR64.2 (by omega))), trivial⟩) ?_
      refine WL.run rfl rfl rfl rfl hb5 rfl rfl (Op1.notB (.tmp rfl)) ?_
      refine WL.op rfl (Op1.pickF (.tmp rfl) hb5 (.tmp rfl)) ?_
      refine WL.mv rfl rfl ?_
      rcases bcases (!few) with hb8 | hb8
      · have hp9 := not_pos hb8
        rw [if_pos hp9] at hm
        refine WL.pass rfl rfl rfl rfl hb8 rfl rfl ?_
        refine WL.pass rfl rfl rfl rfl hb8 rfl rfl ?_
        refine WL.pass rfl rfl rfl rfl hb8 rfl rfl ?_
        refine WL.op rfl (Op1.pickT (.tmp rfl) hb8 .bool) ?_
        refine WL.mv rfl rfl ?_
        refine WL.pass rfl rfl rfl rfl rfl rfl rfl ?_
        refine WL.pass rfl rfl rfl rfl rfl rfl rfl ?_
        refine WL.pass rfl rfl rfl rfl rfl rfl rfl ?_
        refine WL.op rfl (Op1.pickT (.tmp rfl) rfl .bool) ?_
        refine WL.nil ?_
        exact WN.meet true (Option.some.inj hm) ⟨Ent.q rfl, Ent.q rfl, trivial⟩ ⟨rfl, rfl, ⟨rfl, rfl, trivial⟩⟩
      · have hp9 := not_neg hb8
        rw [if_neg hp9] at hm
        refine WL.run rfl rfl rfl rfl hb8 rfl rfl (Op1.load ty27 (.tmp rfl)) ?_
        obtain ⟨valid, hv10, hm⟩ := bind_some hm
        refine WL.run rfl rfl rfl rfl hb8 rfl rfl (Op1.callG (rin := [(700000, Gl (tA 8 tS) 0 gv0), (700001, Gl (tA 8 (tL (tI .i64))) 1 gv1)]) Tryd.call9 (unit_Valid_spec _ _ _ hv10) ⟨rfl, rfl, trivial⟩ ⟨rfl, rfl, ⟨rfl, rfl, trivial⟩⟩ ⟨(.tmp rfl), trivial⟩) ?_
        refine WL.run rfl rfl rfl rfl hb8 rfl rfl (Op1.notB (.tmp rfl)) ?_
        refine WL.op rfl (Op1.pickF (.tmp rfl) hb8 (.tmp rfl)) ?_
        refine WL.mv rfl rfl ?_
        rcases bcases (!valid) with hb11 | hb11
        · have hp12 := not_pos hb11
          rw [if_pos hp12] at hm
          refine WL.pass rfl rfl rfl rfl hb11 rfl rfl ?_
          refine WL.pass rfl rfl rfl rfl hb11 rfl rfl ?_
          refine WL.pass rfl rfl rfl rfl hb11 rfl rfl ?_
          refine WL.op rfl (Op1.pickT (.tmp rfl) hb11 .bool) ?_
          refine WL.nil ?_
          exact WN.meet true (Option.some.inj hm) ⟨Ent.q rfl, Ent.q rfl, trivial⟩ ⟨rfl, rfl, ⟨rfl, rfl, trivial⟩⟩
        · have hp12 := not_neg hb11
          rw [if_neg hp12] at hm
          refine WL.run rfl rfl rfl rfl hb11 rfl rfl (Op1.load ty27 (.tmp rfl)) ?_
          obtain ⟨apart, hv13, hm⟩ := bind_some hm
          refine WL.run rfl rfl rfl rfl hb11 rfl rfl (Op1.call Tryd.call10 (law07_apart_spec _ _ _ hv13) ⟨(.tmp rfl), trivial⟩) ?_
          refine WL.run rfl rfl rfl rfl hb11 rfl rfl (Op1.notB (.tmp rfl)) ?_
          refine WL.op rfl (Op1.pickF (.tmp rfl) hb11 (.tmp rfl)) ?_
          refine WL.nil ?_
          exact WN.meet (!apart) (Option.some.inj hm) ⟨Ent.q rfl, Ent.q rfl, trivial⟩ ⟨rfl, rfl, ⟨rfl, rfl, trivial⟩⟩

theorem law07_short_spec (n : Nat) (p : List api_Step) (r : Bool) (hm : M.law07_short n p = some r) : FSpec Tryd.prog 16 [((tL tapi_Step).is p)] (tB.is r) := by
  unfold M.law07_short at hm
  refine FSpec.of Tryd.func16 rfl rfl rfl (fun g0 => ?_)
  refine W.sr ?_
  refine WL.op rfl (Op1.assign .bool) ?_
  refine WL.ns ?_
  refine W.seq ?_
  refine W.sr ?_
  refine WL.op rfl (Op1.assign (.int (inR64.2 (by omega)))) ?_
  refine WL.ns ?_
  refine W.block ?_
  obtain ⟨s1, hs2, hk3⟩ := bind_some hm
  clear hm
  refine W.loop (fun m (s : Int) => M.law07_short_loop1 p m s = some s1) (fun s => [(3, ((tI .i64).is s)), (0, ((tL tapi_Step).is p))]) (fun s => []) _ (0 : Int) hs2 ⟨Ent.q rfl, Ent.q rfl, trivial⟩ trivial ?_
  rintro n4 i hm
  try dsimp only at hm
  change W _ _ _ _ _ _ _ [(3, ((tI .i64).is i)), (0, ((tL tapi_Step).is p))] []
  cases n4 with
  | zero => rw [M.law07_short_loop1.eq_1] at hm; cases hm
  | succ n4 =>
    rw [M.law07_short_loop1.eq_2] at hm
    refine W.seq ?_
    refine W.sr ?_
    refine WL.mv rfl rfl ?_
    refine WL.mv rfl rfl ?_
    refine WL.op rfl (Op1.lenL Tryd.underlying33 (.tmp rfl)) ?_
    refine WL.op rfl (Op1.ltI (.tmp rfl) (.tmp rfl)) ?_
    refine WL.ns ?_
    refine W.cond (.tmp rfl) (fun hc5 => ?_) (fun hc5 => ?_)
    · have hp6 := of_decide_eq_true hc5
      rw [if_pos hp6] at hm
      refine W.skip ?_
      refine WN.seq ?_
      refine W.seq ?_
      refine W.block ?_
      refine W.sr ?_
      refine WL.mv rfl rfl ?_
      refine WL.mv rfl rfl ?_
      obtain ⟨v, hv7, hm⟩ := bind_some hm
      refine WL.op rfl (Op1.idx hv7 Tryd.underlying33 Tryd.sizeOf41 (.tmp rfl) (.tmp rfl)) ?_
      refine WL.op rfl (Op1.fieldAddr Tryd.underlying41 rfl (fun w => ⟨0, Tryd.sizeOf9 w⟩) fapi_Step_1 (.tmp rfl)) ?_
      refine WL.op rfl (Op1.load ty9 (.tmp rfl)) ?_
      refine WL.op rfl (Op1.lenS Tryd.underlying9 (.tmp rfl)) ?_
      refine WL.op rfl (Op1.gtI (.tmp rfl) (.int (inR64.2 (by omega)))) ?_
      refine WL.ns ?_
      refine W.cond (.tmp rfl) (fun hc8 => ?_) (fun hc8 => ?_)
      · have hp9 := of_decide_eq_true hc8
        rw [if_pos hp9] at hm
        refine W.sr ?_
        refine WL.op rfl (Op1.assign .bool) ?_
        refine WL.ns ?_
        have hr10 := Option.some.inj hm
        clear hm
        subst hr10
        have hm := hk3
        try dsimp only at hm
        cases hm
        exact W.ret1 () rfl (.tmp rfl) trivial
      · have hp9 := of_decide_eq_false hc8
        rw [if_neg hp9] at hm
        refine W.skip ?_
        refine WN.block ?_
        refine WN.seq ?_
        refine W.region ?_
        refine WL.mv rfl rfl ?_
        refine WL.lenL (s := 0) (.tmp rfl) fun hl11 => ?_
        refine WL.op rfl (Op1.addI1 (.tmp rfl) (.int (inR64.2 (by omega))) hp6 hl11) ?_
        refine WL.gv rfl rfl ?_
        refine WL.nil ?_
        exact WN.again n4 (i + 1) (Nat.lt_succ_self n4) hm ⟨Ent.q rfl, Ent.q rfl, trivial⟩ trivial
    · have hp6 := of_decide_eq_false hc5
      rw [if_neg hp6] at hm
      refine W.exit rfl ?_
      have hr12 := Option.some.inj hm
      clear hm
      subst hr12
      have hm := hk3
      try dsimp only at hm
      refine WN.seq ?_
      refine W.sr ?_
      refine WL.mv rfl rfl ?_
      refine WL.op rfl (Op1.lenL Tryd.underlying33 (.tmp rfl)) ?_
      refine WL.op rfl (Op1.leI (.tmp rfl) (.int (inR64.2 (by omega)))) ?_
      refine WL.gv rfl rfl ?_
      refine WL.ns ?_
      cases hm
      exact W.ret1 () rfl (.tmp rfl) trivial

theorem unit_way_spec : ∀ (n : Nat) (u : api_Unit) (id : api_Id) (r : (List api_Unit)), M.unit_way n u id = some r → FSpec Tryd.prog 39 [(tapi_Unit.is u), (tapi_Id.is id)] ((tLn tapi_Unit).is r) := by
  intro n
  induction n with
  | zero => intro u id r hm; cases hm
  | succ n ih =>
    intro u id r hm
    rw [M.unit_way.eq_2] at hm
    refine FSpec.of Tryd.func39 rfl rfl rfl (fun g0 => ?_)
    refine W.sr ?_
    refine WL.op rfl (Op1.box (.tmp rfl)) ?_
    refine WL.op rfl (Op1.box (.tmp rfl)) ?_
    refine WL.op rfl (Op1.assign (.nilN (t := tapi_Unit))) ?_
    refine WL.ns ?_
    refine W.seq ?_
    refine W.sr ?_
    refine WL.op rfl (Op1.fieldAddr Tryd.underlying27 rfl (fun w => ⟨2, Tryd.sizeOf23 w⟩) fapi_Unit_0 (.tmp rfl)) ?_
    refine WL.op rfl (Op1.load ty23 (.tmp rfl)) ?_
    refine WL.op rfl (Op1.load ty23 (.tmp rfl)) ?_
    refine WL.op rfl (Op1.eqSt (D := 2) rfl (by decide) eg23 eq23 (.tmp rfl) (.tmp rfl)) ?_
    refine WL.ns ?_
    refine W.cond (.tmp rfl) (fun hc1 => ?_) (fun hc1 => ?_)
    · have hp2 := of_decide_eq_true hc1
      rw [if_pos hp2] at hm
      refine W.sr ?_
      refine WL.op rfl (Op1.load ty27 (.tmp rfl)) ?_
      refine WL.op rfl (Op1.buildSlice (n := 1) (ys := [(0, u)]) (z := zapi_Unit) (xs := [u]) Tryd.underlying25 el27 ze27 ⟨rfl, (.tmp rfl), trivial⟩ (by simp) (by decide) rfl) ?_
      refine WL.gv rfl rfl ?_
      refine WL.ns ?_
      obtain ⟨_, hz3, hm⟩ := bind_some hm
      cases hm
      exact W.ret1 () rfl (Opd.asLn (neC_ne hz3) (.tmp rfl)) trivial
    · have hp2 := of_decide_eq_false hc1
      rw [if_neg hp2] at hm
      refine W.skip ?_
      refine WN.seq ?_
      refine W.seq ?_
      refine W.sr ?_
      refine WL.op rfl (Op1.fieldAddr Tryd.underlying27 rfl (fun w => ⟨0, Tryd.sizeOf25 w⟩) fapi_Unit_5 (.tmp rfl)) ?_
      refine WL.op rfl (Op1.load ty25 (.tmp rfl)) ?_
      refine WL.op rfl (Op1.lenL Tryd.underlying25 (.tmp rfl)) ?_
      refine WL.op rfl (Op1.move (.int (inR64.2 (by omega)))) ?_
      refine WL.ns ?_
      refine W.block ?_
      obtain ⟨s5, hs6, hk7⟩ := bind_some hm
      clear hm
      refine W.loop (fun m (s : Int × List api_Unit × List api_Unit × Unit) => m = s.2.2.1.length ∧ u.Kids = s.2.1 ++ s.2.2.1 ∧ s.1 = (s.2.1.length : Int) ∧ M.unit_way_loop1 u id (M.unit_way n) s.2.2.1 = some s5) (fun s => [(17, ((tI .i64).is s.1)), (2, (tapi_Unit.ptr u)), (3, (tapi_Id.ptr id)), (15, ((tL tapi_Unit).is u.Kids)), (16, ((tI .i64).is (u.Kids.length : Int)))]) (fun s => []) u.Kids.length ((0 : Int), [], u.Kids, ()) ⟨rfl, rfl, rfl, hs6⟩ ⟨Ent.q rfl, Ent.q rfl, Ent.q rfl, Ent.q rfl, Ent.q rfl, trivial⟩ trivial ?_
      rintro m ⟨i, pre, rest1, _⟩ ⟨hn11, hxs8, hi9, hm⟩
      try dsimp only at hn11 hxs8 hi9 hm
      change W _ _ _ _ _ _ _ [(17, ((tI .i64).is i)), (2, (tapi_Unit.ptr u)), (3, (tapi_Id.ptr id)), (15, ((tL tapi_Unit).is u.Kids)), (16, ((tI .i64).is (u.Kids.length : Int)))] []
      refine W.lenL (s := 15) (.tmp rfl) fun hlen10 => ?_
      refine W.sr ?_
      refine WL.op rfl (Op1.ltI (.tmp rfl) (.tmp rfl)) ?_
      refine WL.ns ?_
      refine W.seq ?_
      refine W.cond (.tmp rfl) (fun hc13 => ?_) (fun hc13 => ?_)
      · have hp14 := of_decide_eq_true hc13
        obtain ⟨e, es, hrest16⟩ := range_more hxs8 hi9 hp14
        subst hrest16
        rw [M.unit_way_loop1.eq_2] at hm
        refine W.skip ?_
        refine WN.seq ?_
        refine W.seq ?_
        refine W.block ?_
        refine W.sr ?_
        refine WL.op rfl (Op1.idxPre hxs8 hi9 Tryd.underlying25 Tryd.sizeOf27 (.tmp rfl) (.tmp rfl)) ?_
        refine WL.op rfl (Op1.load ty27 (.tmp rfl)) ?_
        refine WL.opR rfl (OpR.alloc 6 ze27) (fun b => ?_)
        refine WL.opU (OpR.storeB (b := b) 6 Tryd.sizeOf27 (Cellable.is tapi_Unit e) rfl (.tmp rfl) (.tmp rfl)) (fun _ => ?_)
        refine WL.sealed (t := tapi_Unit) (u := e) 6 6 rfl rfl ?_
        refine WL.nr ?_
        refine WL.op rfl (Op1.load ty27 (.tmp rfl)) ?_
        refine WL.op rfl (Op1.load ty23 (.tmp rfl)) ?_
        obtain ⟨way, hv17, hm⟩ := bind_some hm
        refine WL.op rfl (Op1.call Tryd.call39 (ih _ _ _ hv17) ⟨(.tmp rfl), (.tmp rfl), trivial⟩) ?_
        refine WL.gv rfl rfl ?_
        refine WL.nr ?_
        refine WL.mv rfl rfl ?_
        refine WL.op rfl (Op1.neNil Tryd.underlying25 (.tmp rfl)) ?_
        refine WL.ns ?_
        refine W.cond (.tmp rfl) (fun hc18 => ?_) (fun hc18 => ?_)
        · have hp19 := not_pos hc18
          rw [if_pos hp19] at hm
          refine W.sr ?_
          refine WL.op rfl (Op1.load ty27 (.tmp rfl)) ?_
          refine WL.opR rfl (OpR.buildSlice (n := 1) (ys := [(0, u)]) (z := zapi_Unit) (xs := [u]) 27 Tryd.underlying25 el27 ze27 ⟨rfl, (.tmp rfl), trivial⟩ (by simp) (by decide) rfl) (fun k => ?_)
          refine WL.mv rfl rfl ?_
          obtain ⟨out, hv20, hm⟩ := bind_some hm
          refine WL.opR rfl (OpR.appC (key := 27) hv20 Tryd.underlying25 el27 (.tmp rfl) (Opd.tLn (.tmp rfl)) rfl) (fun k1 => ?_)
          refine WL.gv rfl rfl ?_
          refine WL.ns ?_
          obtain ⟨_, hz21, hm⟩ := bind_some hm
          have hr23 := Option.some.inj hm
          clear hm
          subst hr23
          have hm := hk7
          try dsimp only at hm
          cases hm
          exact W.ret1 () rfl (Opd.asLn (neC_ne hz21) (Opd.own (.tmp rfl))) trivial
        · have hp19 := not_neg hc18
          rw [if_neg hp19] at hm
          refine W.skip ?_
          refine WN.block ?_
          refine WN.seq ?_
          refine W.region ?_
          refine WL.op rfl (Op1.addI (.tmp rfl) (.int (inR64.2 (by omega))) (range_inR hi9 hp14 hlen10)) ?_
          refine WL.mv rfl rfl ?_
          refine WL.nil ?_
          exact WN.again es.length (i + 1, pre ++ [e], es, ()) (range_lt hn11) ⟨rfl, range_step hxs8, range_idx hi9, hm⟩ ⟨Ent.q rfl, Ent.q rfl, Ent.q rfl, Ent.q rfl, Ent.q rfl, trivial⟩ trivial
      · have hrest16 := range_end hxs8 hi9 (of_decide_eq_false hc13)
        subst hrest16
        rw [M.unit_way_loop1.eq_1] at hm
        refine W.exit rfl ?_
        have hr24 := Option.some.inj hm
        clear hm
        subst hr24
        have hm := hk7
        try dsimp only at hm
        refine WN.seq ?_
        refine W.sr ?_
        refine WL.op rfl (Op1.assign (.nilN (t := tapi_Unit))) ?_
        refine WL.ns ?_
        cases hm
        exact W.ret1 () rfl (.tmp rfl) trivial

theorem slices_Clone_api_Word_api_Word_spec (l : List api_Word) (r : List api_Word) (hm : M.slices_Clone_api_Word_api_Word l = some r) : FSpecR Tryd.prog 60 [(tL tapi_Word).is l] [] (fun k : Tok => tO tapi_Word k r) (fun k => [(5, Own tapi_Word 92 k r.length)]) := by
  unfold M.slices_Clone_api_Word_api_Word at hm
  refine FSpecR.of Tryd.func60 rfl rfl rfl (fun g0 => ?_)
  refine W.seq ?_
  refine W.region ?_
  refine WL.op rfl (Op1.assign (.nil (t := tapi_Word))) ?_
  refine WL.nil ?_
  refine WN.seq ?_
  refine W.seq ?_
  refine W.seq ?_
  refine W.region ?_
  refine WL.op rfl (Op1.move (.tmp rfl)) ?_
  refine WL.opR rfl (OpR.eqNil Tryd.underlying24 (.tmp rfl)) (fun b => ?_)
  refine WL.nil ?_
  refine WN.seq ?_
  refine W.cond (.tmp rfl) (fun hc => ?_) (fun hc => ?_)
  · have hl := b.2 hc
    subst hl
    have hr : [] = r := by simpa [appC] using hm
    subst hr
    refine W.seq ?_
    refine W.region ?_
    refine WL.addNil (t := tapi_Word) (E := 92) 5 ?_
    refine WL.op rfl (Op1.assign (Opd.nilO (t := tapi_Word))) ?_
    refine WL.nil ?_
    refine WN.seq ?_
    exact W.ret1 (none : Tok) rfl (.tmp rfl) ⟨rfl, rfl, trivial⟩
  · refine W.skip ?_
    refine WN.seq ?_
    refine W.seq ?_
    refine W.region ?_
    refine WL.opR rfl (OpR.buildSlice (n := 0) (ys := []) (z := zapi_Word) (xs := []) 5 Tryd.underlying24 el92 ze92 trivial (by simp) (by decide) rfl) (fun k5 => ?_)
    refine WL.op rfl (Op1.move (.tmp rfl)) ?_
    refine WL.opR rfl (OpR.appC (key := 5) hm Tryd.underlying24 el92 (.tmp rfl) (.tmp rfl) rfl) (fun k7 => ?_)
    refine WL.op rfl (Op1.assign (.tmp rfl)) ?_
    refine WL.nil ?_
    refine WN.seq ?_
    exact W.ret1 k7 rfl (.tmp rfl) ⟨rfl, rfl, trivial⟩

theorem unit_copied_spec : ∀ (n : Nat) (u : api_Unit) (r : api_Unit), M.unit_copied n u = some r → FSpec Tryd.prog 40 [(tapi_Unit.is u)] (tapi_Unit.is r) := by
  intro n
  induction n with
  | zero => intro u r hm; cases hm
  | succ n ih =>
    intro u r hm
    rw [M.unit_copied.eq_2] at hm
    refine FSpec.of Tryd.func40 rfl rfl rfl (fun g0 => ?_)
    refine W.sr ?_
    refine WL.opR rfl (OpR.boxB 1 (Cellable.is tapi_Unit u) (.tmp rfl)) (fun b => ?_)
    refine WL.opR rfl (OpR.alloc 2 ze27) (fun b1 => ?_)
    refine WL.ns ?_
    refine W.seq ?_
    obtain ⟨word, hv1, hm⟩ := bind_some hm
    obtain ⟨word1, hv2, hm⟩ := bind_some hm
    refine W.weakR (res' := [(1, (Bx 8 true 27 (tapi_Unit.is u) b)), (2, (Bx 8 true 27 (tapi_Unit.is zapi_Unit) b1))]) ⟨rfl, rfl, ⟨rfl, rfl, trivial⟩⟩ ?_
    refine W.drawM [.c (Bp b 5), .c ((tL tapi_Word).is u.Head), .c ((tL tapi_Word).is word), .c (Bp b 6), .c ((tL tapi_Word).is u.Words), .c ((tL tapi_Word).is word1), .c (Bp b 5), .c Asn.any, .c (Bp b 6), .c Asn.any] [([], [1]), ([0], []), ([1], []), ([], [1]), ([3], []), ([4], []), ([], [1]), ([2, 6], []), ([], [1]), ([5, 8], [])] [7, 9] [[], [], [], [], [], [], [], [], [], []] (fun m cv => match m with | 0 => [(1, (Bx 8 true 27 (tapi_Unit.is u) b)), (2, (Bx 8 true 27 (tapi_Unit.is zapi_Unit) b1))] | 1 => [(1, (Bx 8 true 27 (tapi_Unit.is ({ u with Head := word } : api_Unit)) b)), (2, (Bx 8 true 27 (tapi_Unit.is zapi_Unit) b1))] | _ => [(1, (Bx 8 true 27 (tapi_Unit.is ({ ({ u with Head := word } : api_Unit) with Words := word1 } : api_Unit)) b)), (2, (Bx 8 true 27 (tapi_Unit.is zapi_Unit) b1))]) (fun _ => none) Tryd.mixed rfl rfl rfl rfl rfl ⟨fun _ _ _ _ => rfl, ⟨fun _ _ _ _ => rfl, ⟨fun _ _ _ _ => rfl, ⟨fun _ _ _ _ => rfl, ⟨fun _ _ _ _ => rfl, ⟨fun _ _ _ _ => rfl, ⟨fun _ _ _ _ => rfl, ⟨fun _ _ _ _ => rfl, ⟨fun _ _ _ _ => rfl, ⟨fun _ _ _ _ => rfl, trivial⟩⟩⟩⟩⟩⟩⟩⟩⟩⟩ rfl ⟨.inr ⟨fun cv => [], (fun _ _ _ _ => trivial), fun cv => Op1.fieldAddrB (o := 0) Tryd.underlying27 rfl (fun w => ⟨0, Tryd.sizeOf24 w⟩) (.tmp rfl) rfl⟩, ⟨.inr ⟨fun cv => [(1, (Bx 8 true 27 (tapi_Unit.is u) b))], (AllUpTo.at ⟨⟨(fun _ _ => ⟨rfl, rfl, trivial⟩), (fun hw => absurd hw (by decide))⟩, (fun hw => absurd hw (by decide))⟩), fun cv => Op1.loadBF 1 rfl ty24 fapi_Unit_3 rfl (.tmp rfl)⟩, ⟨.inr ⟨fun cv => [], (fun _ _ _ _ => trivial), fun cv => Op1.call Tryd.call60 ((slices_Clone_api_Word_api_Word_spec _ _ hv1).read fun _ _ _ => tO_tL) ⟨(.tmp rfl), trivial⟩⟩, ⟨.inr ⟨fun cv => [], (fun _ _ _ _ => trivial), fun cv => Op1.fieldAddrB (o := 0) Tryd.underlying27 rfl (fun w => ⟨0, Tryd.sizeOf24 w⟩) (.tmp rfl) rfl⟩, ⟨.inr ⟨fun cv => [(1, (Bx 8 true 27 (tapi_Unit.is u) b))], (AllUpTo.at ⟨⟨(fun _ _ => ⟨rfl, rfl, trivial⟩), (fun hw => absurd hw (by decide))⟩, (fun hw => absurd hw (by decide))⟩), fun cv => Op1.loadBF 1 rfl ty24 fapi_Unit_4 rfl (.tmp rfl)⟩, ⟨.inr ⟨fun cv => [], (fun _ _ _ _ => trivial), fun cv => Op1.call Tryd.call60 ((slices_Clone_api_Word_api_Word_spec _ _ hv2).read fun _ _ _ => tO_tL) ⟨(.tmp rfl), trivial⟩⟩, ⟨.inr ⟨fun cv => [], (fun _ _ _ _ => trivial), fun cv => Op1.fieldAddrB (o := 0) Tryd.underlying27 rfl (fun w => ⟨0, Tryd.sizeOf24 w⟩) (.tmp rfl) rfl⟩, ⟨.inl rfl, ⟨.inr ⟨fun cv => [], (fun _ _ _ _ => trivial), fun cv => Op1.fieldAddrB (o := 0) Tryd.underlying27 rfl (fun w => ⟨0, Tryd.sizeOf24 w⟩) (.tmp rfl) rfl⟩, ⟨.inl rfl, trivial⟩⟩⟩⟩⟩⟩⟩⟩⟩⟩ ⟨⟨_, _, _, [1], (fun cv => [(1, (Bx 8 true 27 (tapi_Unit.is ({ u with Head := word } : api_Unit)) b))]), rfl, rfl, rfl, rfl, fun _ => rfl, fun _ _ => rfl, fun cv => OpR.viaU (OpR.storeBF (b := b) 1 rfl ty24 sapi_Unit_3 rfl (by decide) (.tmp rfl) (.tmp rfl))⟩, ⟨⟨_, _, _, [1], (fun cv => [(1, (Bx 8 true 27 (tapi_Unit.is ({ ({ u with Head := word } : api_Unit) with Words := word1 } : api_Unit)) b))]), rfl, rfl, rfl, rfl, fun _ => rfl, fun _ _ => rfl, fun cv => OpR.viaU (OpR.storeBF (b := b) 1 rfl ty24 sapi_Unit_4 rfl (by decide) (.tmp rfl) (.tmp rfl))⟩, trivial⟩⟩ (fun cv => ?_)
    refine WN.seq ?_
    refine W.sr ?_
    refine WL.addNil (t := tapi_Unit) (E := 27) 3 ?_
    refine WL.op rfl (Op1.assign (Opd.nilO (t := tapi_Unit))) ?_
    refine WL.ns ?_
    refine W.seq ?_
    refine W.sr ?_
    refine WL.op rfl (Op1.fieldAddrB (o := 0) Tryd.underlying27 rfl (fun w => ⟨0, Tryd.sizeOf25 w⟩) (.tmp rfl) rfl) ?_
    refine WL.op rfl (Op1.loadBF 1 rfl ty25 fapi_Unit_5 rfl (.tmp rfl)) ?_
    refine WL.op rfl (Op1.lenL Tryd.underlying25 (.tmp rfl)) ?_
    refine WL.op rfl (Op1.move (.int (inR64.2 (by omega)))) ?_
    refine WL.ns ?_
    refine W.block ?_
    obtain ⟨s3, hs4, hk5⟩ := bind_some hm
    clear hm
    refine W.loop (fun m (s : Int × List api_Unit × List api_Unit × (((List api_Unit)) × Tok)) => m = s.2.2.1.length ∧ ({ ({ u with Head := word } : api_Unit) with Words := word1 } : api_Unit).Kids = s.2.1 ++ s.2.2.1 ∧ s.1 = (s.2.1.length : Int) ∧ M.unit_copied_loop1 (M.unit_copied n) s.2.2.1 s.2.2.2.1 = some s3) (fun s => [(17, ((tI .i64).is s.1)), (3, (tO tapi_Unit s.2.2.2.2 s.2.2.2.1)), (1, (Bp b 0)), (2, (Bp b1 0)), (15, ((tL tapi_Unit).is (({ ({ u with Head := word } : api_Unit) with Words := word1 } : api_Unit).Kids))), (16, ((tI .i64).is ((({ ({ u with Head := word } : api_Unit) with Words := word1 } : api_Unit).Kids).length : Int)))]) (fun s => [(3, Own tapi_Unit 27 s.2.2.2.2 s.2.2.2.1.length), (1, (Bx 8 true 27 (tapi_Unit.is ({ ({ u with Head := word } : api_Unit) with Words := word1 } : api_Unit)) b)), (2, (Bx 8 true 27 (tapi_Unit.is zapi_Unit) b1))]) (({ ({ u with Head := word } : api_Unit) with Words := word1 } : api_Unit).Kids).length ((0 : Int), [], ({ ({ u with Head := word } : api_Unit) with Words := word1 } : api_Unit).Kids, (([] : List api_Unit), (none : Tok))) ⟨rfl, rfl, rfl, hs4⟩ ⟨Ent.q rfl, Ent.q rfl, Ent.q rfl, Ent.q rfl, Ent.q rfl, Ent.q rfl, trivial⟩ ⟨rfl, rfl, ⟨rfl, rfl, ⟨rfl, rfl, trivial⟩⟩⟩ ?_
    rintro m ⟨i, pre, rest1, ⟨kids, k⟩⟩ ⟨hn9, hxs6, hi7, hm⟩
    try dsimp only at hn9 hxs6 hi7 hm
    change W _ _ _ _ _ _ _ [(17, ((tI .i64).is i)), (3, (tO tapi_Unit k kids)), (1, (Bp b 0)), (2, (Bp b1 0)), (15, ((tL tapi_Unit).is (({ ({ u with Head := word } : api_Unit) with Words := word1 } : api_Unit).Kids))), (16, ((tI .i64).is ((({ ({ u with Head := word } : api_Unit) with Words := word1 } : api_Unit).Kids).length : Int)))] [(3, Own tapi_Unit 27 k kids.length), (1, (Bx 8 true 27 (tapi_Unit.is ({ ({ u with Head := word } : api_Unit) with Words := word1 } : api_Unit)) b)), (2, (Bx 8 true 27 (tapi_Unit.is zapi_Unit) b1))]
    refine W.lenL (s := 15) (.tmp rfl) fun hlen8 => ?_
    refine W.sr ?_
    refine WL.op rfl (Op1.ltI (.tmp rfl) (.tmp rfl)) ?_
    refine WL.ns ?_
    refine W.seq ?_
    refine W.cond (.tmp rfl) (fun hc11 => ?_) (fun hc11 => ?_)
    · have hp12 := of_decide_eq_true hc11
      obtain ⟨e, es, hrest14⟩ := range_more hxs6 hi7 hp12
      subst hrest14
      rw [M.unit_copied_loop1.eq_2] at hm
      refine W.skip ?_
      refine WN.seq ?_
      refine W.seq ?_
      refine W.block ?_
      refine W.sr ?_
      refine WL.op rfl (Op1.idxPre hxs6 hi7 Tryd.underlying25 Tryd.sizeOf27 (.tmp rfl) (.tmp rfl)) ?_
      refine WL.op rfl (Op1.load ty27 (.tmp rfl)) ?_
      refine WL.opR rfl (OpR.alloc 5 ze27) (fun b2 => ?_)
      refine WL.opU (OpR.storeB (b := b2) 5 Tryd.sizeOf27 (Cellable.is tapi_Unit e) rfl (.tmp rfl) (.tmp rfl)) (fun _ => ?_)
      refine WL.sealed (t := tapi_Unit) (u := e) 5 5 rfl rfl ?_
      refine WL.nr1 ?_
      refine WL.mv rfl rfl ?_
      refine WL.op rfl (Op1.load ty27 (.tmp rfl)) ?_
      obtain ⟨copied, hv15, hm⟩ := bind_some hm
      refine WL.op rfl (Op1.call Tryd.call40 (ih _ _ hv15) ⟨(.tmp rfl), trivial⟩) ?_
      refine WL.op rfl (Op1.buildSlice (n := 1) (ys := [(0, copied)]) (z := zapi_Unit) (xs := [copied]) Tryd.underlying25 el27 ze27 ⟨rfl, (.tmp rfl), trivial⟩ (by simp) (by decide) rfl) ?_
      obtain ⟨kids1, hv16, hm⟩ := bind_some hm
      refine WL.opR rfl (OpR.appC (key := 3) hv16 Tryd.underlying25 el27 (.tmp rfl) (.tmp rfl) rfl) (fun k1 => ?_)
      refine WL.gv rfl rfl ?_
      refine WL.nil ?_
      refine WN.block ?_
      refine WN.seq ?_
      refine W.region ?_
      refine WL.op rfl (Op1.addI (.tmp rfl) (.int (inR64.2 (by omega))) (range_inR hi7 hp12 hlen8)) ?_
      refine WL.mv rfl rfl ?_
      refine WL.nil ?_
      exact WN.again es.length (i + 1, pre ++ [e], es, (kids1, k1)) (range_lt hn9) ⟨rfl, range_step hxs6, range_idx hi7, hm⟩ ⟨Ent.q rfl, Ent.q rfl, Ent.q rfl, Ent.q rfl, Ent.q rfl, Ent.q rfl, trivial⟩ ⟨rfl, rfl, ⟨rfl, rfl, ⟨rfl, rfl, trivial⟩⟩⟩
    · have hrest14 := range_end hxs6 hi7 (of_decide_eq_false hc11)
      subst hrest14
      rw [M.unit_copied_loop1.eq_1] at hm
      refine W.exit rfl ?_
      have hr17 := Option.some.inj hm
      clear hm
      subst hr17
      have hm := hk5
      try dsimp only at hm
      refine WN.seq ?_
      refine W.sr ?_
      refine WL.mv rfl rfl ?_
      refine WL.op rfl (Op1.fieldAddrB (o := 0) Tryd.underlying27 rfl (fun w => ⟨0, Tryd.sizeOf25 w⟩) (.tmp rfl) rfl) ?_
      refine WL.opU (OpR.storeBF (b := b) 1 rfl ty25 sapi_Unit_5 rfl (by decide) (.tmp rfl) (Opd.own (.tmp rfl))) (fun _ => ?_)
      refine WL.nr ?_
      refine WL.op rfl (Op1.loadB 1 Tryd.isAgg27 Tryd.sizeOf27 rfl (.tmp rfl)) ?_
      refine WL.opU (OpR.storeB (b := b1) 2 Tryd.sizeOf27 (Cellable.is tapi_Unit ({ ({ ({ u with Head := word } : api_Unit) with Words := word1 } : api_Unit) with Kids := kids } : api_Unit)) rfl (.tmp rfl) (.tmp rfl)) (fun _ => ?_)
      refine WL.ns ?_
      cases hm
      exact W.retQ1 () rfl (ResAt.cell 2 Tryd.isAgg27 Tryd.sizeOf27 rfl (.tmp rfl)) trivial

theorem unit_Find_spec (n : Nat) (u : api_Unit) (id : api_Id) (r : api_Unit × Bool) (hm : M.unit_Find n u id = some r) : FSpec Tryd.prog 19 [(tapi_Unit.is u), (tapi_Id.is id)] (Asn.tuple2 (tapi_Unit.is r.1) (tB.is r.2)) := by
  unfold M.unit_Find at hm
  refine FSpec.of Tryd.func19 rfl rfl rfl (fun g0 => ?_)
  refine W.sr ?_
  refine WL.op rfl (Op1.box (.tmp rfl)) ?_
  refine WL.op rfl (Op1.box (.tmp rfl)) ?_
  refine WL.opR rfl (OpR.alloc 4 ze27) (fun b => ?_)
  refine WL.op rfl (Op1.assign .bool) ?_
  refine WL.nr ?_
  refine WL.op rfl (Op1.load ty27 (.tmp rfl)) ?_
  refine WL.op rfl (Op1.load ty23 (.tmp rfl)) ?_
  obtain ⟨way, hv1, hm⟩ := bind_some hm
  refine WL.op rfl (Op1.call Tryd.call39 (unit_way_spec _ _ _ _ hv1) ⟨(.tmp rfl), (.tmp rfl), trivial⟩) ?_
  refine WL.gv rfl rfl ?_
  refine WL.ns ?_
  refine W.seq ?_
  refine W.sr ?_
  refine WL.mv rfl rfl ?_
  refine WL.op rfl (Op1.lenL Tryd.underlying25 (Opd.tLn (.tmp rfl))) ?_
  refine WL.op rfl (Op1.eqI (.tmp rfl) (.int (inR64.2 (by omega)))) ?_
  refine WL.ns ?_
  refine W.cond (.tmp rfl) (fun hc2 => ?_) (fun hc2 => ?_)
  · have hp3 := of_decide_eq_true hc2
    rw [if_pos hp3] at hm
    refine W.sr ?_
    refine WL.op rfl (Op1.build (s := tapi_Unit) (x := (⟨zapi_Id, (0 : Int), ([] : Str), ([] : List api_Word), ([] : List api_Word), ([] : List api_Unit)⟩ : api_Unit)) zapi_Unit_f rfl Tryd.underlying27 (zapi_Unit_sz _ Tryd.underlying27) ze27 rfl) ?_
    refine WL.opU (OpR.storeB (b := b) 4 Tryd.sizeOf27 (Cellable.is tapi_Unit (⟨zapi_Id, (0 : Int), ([] : Str), ([] : List api_Word), ([] : List api_Word), ([] : List api_Unit)⟩ : api_Unit)) rfl (.tmp rfl) (.tmp rfl)) (fun _ => ?_)
    refine WL.op rfl (Op1.assign .bool) ?_
    refine WL.ns ?_
    cases hm
    exact W.retQ2 () rfl rfl (ResAt.cell 4 Tryd.isAgg27 Tryd.sizeOf27 rfl (.tmp rfl)) (ResAt.tmp (.tmp rfl)) trivial
  · have hp3 := of_decide_eq_false hc2
    rw [if_neg hp3] at hm
    refine W.skip ?_
    refine WN.seq ?_
    refine W.sr ?_
    refine WL.mv rfl rfl ?_
    refine WL.mv rfl rfl ?_
    refine WL.op rfl (Op1.lenL Tryd.underlying25 (Opd.tLn (.tmp rfl))) ?_
    obtain ⟨v, hv4, hm⟩ := bind_some hm
    refine WL.op rfl (Op1.subC hv4 (.tmp rfl) (.int (inR64.2 (by omega)))) ?_
    obtain ⟨v1, hv5, hm⟩ := bind_some hm
    refine WL.op rfl (Op1.idx hv5 Tryd.underlying25 Tryd.sizeOf27 (Opd.tLn (.tmp rfl)) (.tmp rfl)) ?_
    refine WL.op rfl (Op1.load ty27 (.tmp rfl)) ?_
    obtain ⟨copied, hv6, hm⟩ := bind_some hm
    refine WL.op rfl (Op1.call Tryd.call40 (unit_copied_spec _ _ _ hv6) ⟨(.tmp rfl), trivial⟩) ?_
    refine WL.opU (OpR.storeB (b := b) 4 Tryd.sizeOf27 (Cellable.is tapi_Unit copied) rfl (.tmp rfl) (.tmp rfl)) (fun _ => ?_)
    refine WL.op rfl (Op1.assign .bool) ?_
    refine WL.ns ?_
    cases hm
    exact W.retQ2 () rfl rfl (ResAt.cell 4 Tryd.isAgg27 Tryd.sizeOf27 rfl (.tmp rfl)) (ResAt.tmp (.tmp rfl)) trivial

theorem r07_Ids_spec (n : Nat) (a : List api_Id) (b : List api_Id) (r : Bool) (hm : M.r07_Ids n a b = some r) : FSpec Tryd.prog 20 [((tL tapi_Id).is a), ((tL tapi_Id).is b)] (tB.is r) := by
  unfold M.r07_Ids at hm
  refine FSpec.of Tryd.func20 rfl rfl rfl (fun g0 => ?_)
  refine W.sr ?_
  refine WL.op rfl (Op1.assign .bool) ?_
  refine WL.ns ?_
  refine W.seq ?_
  refine W.sr ?_
  refine WL.mv rfl rfl ?_
  refine WL.op rfl (Op1.lenL Tryd.underlying31 (.tmp rfl)) ?_
  refine WL.mv rfl rfl ?_
  refine WL.op rfl (Op1.lenL Tryd.underlying31 (.tmp rfl)) ?_
  refine WL.op rfl (Op1.neI (.tmp rfl) (.tmp rfl)) ?_
  refine WL.ns ?_
  refine W.cond (.tmp rfl) (fun hc1 => ?_) (fun hc1 => ?_)
  · have hp2 := of_decide_eq_true hc1
    rw [if_pos hp2] at hm
    refine W.sr ?_
    refine WL.op rfl (Op1.assign .bool) ?_
    refine WL.ns ?_
    cases hm
    exact W.ret1 () rfl (.tmp rfl) trivial
  · have hp2 := of_decide_eq_false hc1
    rw [if_neg hp2] at hm
    refine W.skip ?_
    refine WN.seq ?_
    refine W.seq ?_
    refine W.sr ?_
    refine WL.op rfl (Op1.assign (.int (inR64.2 (by omega)))) ?_
    refine WL.ns ?_
    refine W.block ?_
    obtain ⟨s3, hs4, hk5⟩ := bind_some hm
    clear hm
    refine W.loop (fun m (s : Int) => M.r07_Ids_loop1 a b m s = some s3) (fun s => [(5, ((tI .i64).is s)), (0, ((tL tapi_Id).is a)), (1, ((tL tapi_Id).is b))]) (fun s => []) _ (0 : Int) hs4 ⟨Ent.q rfl, Ent.q rfl, Ent.q rfl, trivial⟩ trivial ?_
    rintro n6 i hm
    try dsimp only at hm
    change W _ _ _ _ _ _ _ [(5, ((tI .i64).is i)), (0, ((tL tapi_Id).is a)), (1, ((tL tapi_Id).is b))] []
    cases n6 with
    | zero => rw [M.r07_Ids_loop1.eq_1] at hm; cases hm
    | succ n6 =>
      rw [M.r07_Ids_loop1.eq_2] at hm
      refine W.seq ?_
      refine W.sr ?_
      refine WL.mv rfl rfl ?_
      refine WL.mv rfl rfl ?_
      refine WL.op rfl (Op1.lenL Tryd.underlying31 (.tmp rfl)) ?_
      refine WL.op rfl (Op1.ltI (.tmp rfl) (.tmp rfl)) ?_
      refine WL.ns ?_
      refine W.cond (.tmp rfl) (fun hc7 => ?_) (fun hc7 => ?_)
      · have hp8 := of_decide_eq_true hc7
        rw [if_pos hp8] at hm
        refine W.skip ?_
        refine WN.seq ?_
        refine W.seq ?_
        refine W.block ?_
        refine W.seq ?_
        obtain ⟨v, hv9, hm⟩ := bind_some hm
        obtain ⟨v1, hv10, hm⟩ := bind_some hm
        refine W.draw [.c ((tL tapi_Id).is a), .c ((tI .i64).is i), .c (tapi_Id.ptr v), .c (tapi_Id.is v), .c ((tL tapi_Id).is b), .c ((tI .i64).is i), .c (tapi_Id.ptr v1), .c (tapi_Id.is v1), .c (tB.is (decide (v ≠ v1)))] [([], [0]), ([], [5]), ([0, 1], []), ([2], []), ([], [1]), ([], [5]), ([4, 5], []), ([6], []), ([3, 7], [])] Tryd.mixed rfl rfl rfl rfl ⟨.inr (Op1.move (.tmp rfl)), .inr (Op1.move (.tmp rfl)), .inr (Op1.idx hv9 Tryd.underlying31 Tryd.sizeOf23 (.tmp rfl) (.tmp rfl)), .inr (Op1.load ty23 (.tmp rfl)), .inr (Op1.move (.tmp rfl)), .inr (Op1.move (.tmp rfl)), .inr (Op1.idx hv10 Tryd.underlying31 Tryd.sizeOf23 (.tmp rfl) (.tmp rfl)), .inr (Op1.load ty23 (.tmp rfl)), .inr (Op1.neSt (D := 2) rfl (by decide) eg23 eq23 (.tmp rfl) (.tmp rfl)), trivial⟩ ?_
        refine WN.seq ?_
        refine W.cond (.tmp rfl) (fun hc11 => ?_) (fun hc11 => ?_)
        · have hp12 := of_decide_eq_true hc11
          rw [if_pos hp12] at hm
          refine W.sr ?_
          refine WL.op rfl (Op1.assign .bool) ?_
          refine WL.ns ?_
          have hr13 := Option.some.inj hm
          clear hm
          subst hr13
          have hm := hk5
          try dsimp only at hm
          cases hm
          exact W.ret1 () rfl (.tmp rfl) trivial
        · have hp12 := of_decide_eq_false hc11
          rw [if_neg hp12] at hm
          refine W.skip ?_
          refine WN.block ?_
          refine WN.seq ?_
          refine W.region ?_
          refine WL.mv rfl rfl ?_
          refine WL.lenL (s := 0) (.tmp rfl) fun hl14 => ?_
          refine WL.op rfl (Op1.addI1 (.tmp rfl) (.int (inR64.2 (by omega))) hp8 hl14) ?_
          refine WL.gv rfl rfl ?_
          refine WL.nil ?_
          exact WN.again n6 (i + 1) (Nat.lt_succ_self n6) hm ⟨Ent.q rfl, Ent.q rfl, Ent.q rfl, trivial⟩ trivial
      · have hp8 := of_decide_eq_false hc7
        rw [if_neg hp8] at hm
        refine W.exit rfl ?_
        have hr15 := Option.some.inj hm
        clear hm
        subst hr15
        have hm := hk5
        try dsimp only at hm
        refine WN.seq ?_
        refine W.sr ?_
        refine WL.op rfl (Op1.assign .bool) ?_
        refine WL.ns ?_
        cases hm
        exact W.ret1 () rfl (.tmp rfl) trivial

end Go.Proofs.YtfclekegoleiaaaDoor
