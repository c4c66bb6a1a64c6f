/-
  The code does what the models say: written by program.
-/
import Derived.Test.YtdnemlcoeecbjaaDoorWa
set_option linter.unusedVariables false
set_option linter.unusedSimpArgs false
namespace Go.Proofs.YtdnemlcoeecbjaaDoor
open Go Go.Dec

set_option maxRecDepth 100000
set_option maxHeartbeats 4000000
theorem address_way_spec : ∀ (n : Nat) (u : api_Unit) (id : api_Id) (r : (List api_Step) × Bool), M.address_way n u id = some r → FSpec Tryd.prog 45 [(tapi_Unit.is u), (tapi_Id.is id)] (Asn.tuple2 ((tL tapi_Step).is r.1) (tB.is r.2)) := by
  intro n
  induction n with
  | zero => intro u id r hm; cases hm
  | succ n ih =>
    intro u id r hm
    rw [M.address_way.eq_2] at hm
    refine FSpec.of Tryd.func45 rfl rfl rfl (fun g0 => ?_)
    refine W.sr ?_
    refine WL.op rfl (Op1.box (.tmp rfl)) ?_
    refine WL.op rfl (Op1.box (.tmp rfl)) ?_
    refine WL.op rfl (Op1.assign (.nil (t := tapi_Step))) ?_
    refine WL.op rfl (Op1.assign .bool) ?_
    refine WL.ns ?_
    refine W.seq ?_
    refine W.sr ?_
    refine WL.op rfl (Op1.fieldAddr Tryd.underlying43 rfl (fun w => ⟨2, Tryd.sizeOf24 w⟩) fapi_Unit_0 (.tmp rfl)) ?_
    refine WL.op rfl (Op1.load ty24 (.tmp rfl)) ?_
    refine WL.op rfl (Op1.load ty24 (.tmp rfl)) ?_
    refine WL.op rfl (Op1.eqSt (D := 2) rfl (by decide) eg24 eq24 (.tmp rfl) (.tmp rfl)) ?_
    refine WL.ns ?_
    refine W.cond (.tmp rfl) (fun hc1 => ?_) (fun hc1 => ?_)
    · have hp2 := of_decide_eq_true hc1
      rw [if_pos hp2] at hm
      refine W.sr ?_
      refine WL.op rfl (Op1.assign (.nil (t := tapi_Step))) ?_
      refine WL.op rfl (Op1.assign .bool) ?_
      refine WL.ns ?_
      cases hm
      exact W.ret2 () rfl rfl (.tmp rfl) (.tmp rfl) trivial
    · have hp2 := of_decide_eq_false hc1
      rw [if_neg hp2] at hm
      refine W.skip ?_
      refine WN.seq ?_
      refine W.seq ?_
      refine W.sr ?_
      refine WL.op rfl (Op1.fieldAddr Tryd.underlying43 rfl (fun w => ⟨0, Tryd.sizeOf41 w⟩) fapi_Unit_5 (.tmp rfl)) ?_
      refine WL.op rfl (Op1.load ty41 (.tmp rfl)) ?_
      refine WL.op rfl (Op1.lenL Tryd.underlying41 (.tmp rfl)) ?_
      refine WL.op rfl (Op1.move (.int (inR64.2 (by omega)))) ?_
      refine WL.ns ?_
      refine W.block ?_
      obtain ⟨s3, hs4, hk5⟩ := bind_some hm
      clear hm
      refine W.loop (fun m (s : Int × List api_Unit × List api_Unit × Unit) => m = s.2.2.1.length ∧ u.Kids = s.2.1 ++ s.2.2.1 ∧ s.1 = (s.2.1.length : Int) ∧ M.address_way_loop1 id (M.address_way n) s.2.2.1 = some s3) (fun s => [(17, ((tI .i64).is s.1)), (3, (tapi_Id.ptr id)), (15, ((tL tapi_Unit).is u.Kids)), (16, ((tI .i64).is (u.Kids.length : Int)))]) (fun s => []) u.Kids.length ((0 : Int), [], u.Kids, ()) ⟨rfl, rfl, rfl, hs4⟩ ⟨Ent.q rfl, Ent.q rfl, Ent.q rfl, Ent.q rfl, trivial⟩ trivial ?_
      rintro m ⟨i, pre, rest1, _⟩ ⟨hn9, hxs6, hi7, hm⟩
      try dsimp only at hn9 hxs6 hi7 hm
      change W _ _ _ _ _ _ _ [(17, ((tI .i64).is i)), (3, (tapi_Id.ptr id)), (15, ((tL tapi_Unit).is u.Kids)), (16, ((tI .i64).is (u.Kids.length : Int)))] []
      refine W.lenL (s := 15) (.tmp rfl) fun hlen8 => ?_
      refine W.sr ?_
      refine WL.op rfl (Op1.ltI (.tmp rfl) (.tmp rfl)) ?_
      refine WL.ns ?_
      refine W.seq ?_
      refine W.cond (.tmp rfl) (fun hc11 => ?_) (fun hc11 => ?_)
      · have hp12 := of_decide_eq_true hc11
        obtain ⟨e, es, hrest14⟩ := range_more hxs6 hi7 hp12
        subst hrest14
        rw [M.address_way_loop1.eq_2] at hm
        refine W.skip ?_
        refine WN.seq ?_
        refine W.seq ?_
        refine W.block ?_
        refine W.sr ?_
        refine WL.op rfl (Op1.idxPre hxs6 hi7 Tryd.underlying41 Tryd.sizeOf43 (.tmp rfl) (.tmp rfl)) ?_
        refine WL.op rfl (Op1.load ty43 (.tmp rfl)) ?_
        refine WL.opR rfl (OpR.alloc 7 ze43) (fun b => ?_)
        refine WL.opU (OpR.storeB (b := b) 7 Tryd.sizeOf43 (Cellable.is tapi_Unit e) rfl (.tmp rfl) (.tmp rfl)) (fun _ => ?_)
        refine WL.sealed (t := tapi_Unit) (u := e) 7 7 rfl rfl ?_
        refine WL.nr ?_
        refine WL.op rfl (Op1.load ty43 (.tmp rfl)) ?_
        refine WL.op rfl (Op1.load ty24 (.tmp rfl)) ?_
        obtain ⟨way, hv15, hm⟩ := bind_some hm
        refine WL.op rfl (Op1.call Tryd.call45 (ih _ _ _ hv15) ⟨(.tmp rfl), (.tmp rfl), trivial⟩) ?_
        refine WL.mv rfl rfl ?_
        refine WL.op rfl (Op1.extract0 (.tmp rfl)) ?_
        refine WL.op rfl (Op1.extract1 (.tmp rfl)) ?_
        refine WL.gv rfl rfl ?_
        refine WL.gv rfl rfl ?_
        refine WL.nr ?_
        refine WL.mv rfl rfl ?_
        refine WL.ns ?_
        refine W.cond (.tmp rfl) (fun hc16 => ?_) (fun hc16 => ?_)
        · have hp17 := hc16
          rw [if_pos hp17] at hm
          refine W.sr ?_
          refine WL.op rfl (Op1.fieldAddr Tryd.underlying43 rfl (fun w => ⟨0, Tryd.sizeOf3 w⟩) fapi_Unit_1 (.tmp rfl)) ?_
          refine WL.op rfl (Op1.load ty3 (.tmp rfl)) ?_
          refine WL.op rfl (Op1.fieldAddr Tryd.underlying43 rfl (fun w => ⟨0, Tryd.sizeOf9 w⟩) fapi_Unit_2 (.tmp rfl)) ?_
          refine WL.op rfl (Op1.load ty9 (.tmp rfl)) ?_
          refine WL.op rfl (Op1.build (s := tapi_Step) (x := (⟨e.Kind, e.Label⟩ : api_Step)) zapi_Step_f rfl Tryd.underlying83 (zapi_Step_sz _ Tryd.underlying83) ze83 ⟨_, (tI .i64), e.Kind, _, _, rfl, Tryd.sizeOf3, (.tmp rfl), sapi_Step_0, ⟨_, tS, e.Label, _, _, rfl, Tryd.sizeOf9, (.tmp rfl), sapi_Step_1, rfl⟩⟩) ?_
          refine WL.opR rfl (OpR.buildSlice (n := 1) (ys := [(0, (⟨e.Kind, e.Label⟩ : api_Step))]) (z := zapi_Step) (xs := [(⟨e.Kind, e.Label⟩ : api_Step)]) 33 Tryd.underlying63 el83 ze83 ⟨rfl, (.tmp rfl), trivial⟩ (by simp) (by decide) rfl) (fun k => ?_)
          refine WL.mv rfl rfl ?_
          obtain ⟨out, hv18, hm⟩ := bind_some hm
          refine WL.opR rfl (OpR.appC (key := 33) hv18 Tryd.underlying63 el83 (.tmp rfl) (.tmp rfl) rfl) (fun k1 => ?_)
          refine WL.gv rfl rfl ?_
          refine WL.op rfl (Op1.assign .bool) ?_
          refine WL.ns ?_
          have hr19 := Option.some.inj hm
          clear hm
          subst hr19
          have hm := hk5
          try dsimp only at hm
          cases hm
          exact W.ret2 () rfl rfl (Opd.own (.tmp rfl)) (.tmp rfl) trivial
        · have hp17 := ne_of_false hc16
          rw [if_neg hp17] at hm
          refine W.skip ?_
          refine WN.block ?_
          refine WN.seq ?_
          refine W.region ?_
          refine WL.op rfl (Op1.addI (.tmp rfl) (.int (inR64.2 (by omega))) (range_inR hi7 hp12 hlen8)) ?_
          refine WL.mv rfl rfl ?_
          refine WL.nil ?_
          exact WN.again es.length (i + 1, pre ++ [e], es, ()) (range_lt hn9) ⟨rfl, range_step hxs6, range_idx hi7, hm⟩ ⟨Ent.q rfl, Ent.q rfl, Ent.q rfl, Ent.q rfl, trivial⟩ trivial
      · have hrest14 := range_end hxs6 hi7 (of_decide_eq_false hc11)
        subst hrest14
        rw [M.address_way_loop1.eq_1] at hm
        refine W.exit rfl ?_
        have hr20 := Option.some.inj hm
        clear hm
        subst hr20
        have hm := hk5
        try dsimp only at hm
        refine WN.seq ?_
        refine W.sr ?_
        refine WL.op rfl (Op1.assign (.nil (t := tapi_Step))) ?_
        refine WL.op rfl (Op1.assign .bool) ?_
        refine WL.ns ?_
        cases hm
        exact W.ret2 () rfl rfl (.tmp rfl) (.tmp rfl) trivial

theorem address_Full_spec (n : Nat) (u : api_Unit) (id : api_Id) (r : (List api_Step) × Bool) (hm : M.address_Full n u id = some r) : FSpec Tryd.prog 33 [(tapi_Unit.is u), (tapi_Id.is id)] (Asn.tuple2 ((tL tapi_Step).is r.1) (tB.is r.2)) := by
  unfold M.address_Full at hm
  refine FSpec.of Tryd.func33 rfl rfl rfl (fun g0 => ?_)
  refine W.sr ?_
  refine WL.op rfl (Op1.box (.tmp rfl)) ?_
  refine WL.op rfl (Op1.box (.tmp rfl)) ?_
  refine WL.op rfl (Op1.assign (.nil (t := tapi_Step))) ?_
  refine WL.op rfl (Op1.assign .bool) ?_
  refine WL.nr ?_
  refine WL.op rfl (Op1.load ty43 (.tmp rfl)) ?_
  refine WL.op rfl (Op1.load ty24 (.tmp rfl)) ?_
  obtain ⟨way, hv1, hm⟩ := bind_some hm
  refine WL.op rfl (Op1.call Tryd.call45 (address_way_spec _ _ _ _ hv1) ⟨(.tmp rfl), (.tmp rfl), trivial⟩) ?_
  refine WL.mv rfl rfl ?_
  refine WL.op rfl (Op1.extract0 (.tmp rfl)) ?_
  refine WL.op rfl (Op1.extract1 (.tmp rfl)) ?_
  refine WL.gv rfl rfl ?_
  refine WL.gv rfl rfl ?_
  refine WL.ns ?_
  refine W.seq ?_
  refine W.sr ?_
  refine WL.mv rfl rfl ?_
  refine WL.op rfl (Op1.notB (.tmp rfl)) ?_
  refine WL.ns ?_
  refine W.cond (.tmp rfl) (fun hc2 => ?_) (fun hc2 => ?_)
  · have hp3 := not_pos hc2
    rw [if_pos hp3] at hm
    refine W.sr ?_
    refine WL.op rfl (Op1.assign (.nil (t := tapi_Step))) ?_
    refine WL.op rfl (Op1.assign .bool) ?_
    refine WL.ns ?_
    cases hm
    exact W.ret2 () rfl rfl (.tmp rfl) (.tmp rfl) trivial
  · have hp3 := not_neg hc2
    rw [if_neg hp3] at hm
    refine W.skip ?_
    refine WN.seq ?_
    refine W.sr ?_
    refine WL.op rfl (Op1.build (s := tapi_Step) (x := (⟨(0 : Int), ([] : Str)⟩ : api_Step)) zapi_Step_f rfl Tryd.underlying83 (zapi_Step_sz _ Tryd.underlying83) ze83 ⟨_, (tI .i64), (0 : Int), _, _, rfl, Tryd.sizeOf3, (.int (inR64.2 (by omega))), sapi_Step_0, rfl⟩) ?_
    refine WL.opR rfl (OpR.buildSlice (n := 1) (ys := [(0, (⟨(0 : Int), ([] : Str)⟩ : api_Step))]) (z := zapi_Step) (xs := [(⟨(0 : Int), ([] : Str)⟩ : api_Step)]) 17 Tryd.underlying63 el83 ze83 ⟨rfl, (.tmp rfl), trivial⟩ (by simp) (by decide) rfl) (fun k => ?_)
    refine WL.mv rfl rfl ?_
    obtain ⟨out, hv4, hm⟩ := bind_some hm
    refine WL.opR rfl (OpR.appC (key := 17) hv4 Tryd.underlying63 el83 (.tmp rfl) (.tmp rfl) rfl) (fun k1 => ?_)
    refine WL.gv rfl rfl ?_
    refine WL.op rfl (Op1.assign .bool) ?_
    refine WL.ns ?_
    cases hm
    exact W.ret2 () rfl rfl (Opd.own (.tmp rfl)) (.tmp rfl) trivial

theorem address_book_spec (s0_ : api_Step) (r : Bool) (hm : M.address_book s0_ = some r) : FSpec Tryd.prog 48 [(tapi_Step.is s0_)] (tB.is r) := by
  unfold M.address_book at hm
  refine FSpec.of Tryd.func48 rfl rfl rfl (fun g0 => ?_)
  refine W.sr ?_
  refine WL.op rfl (Op1.box (.tmp rfl)) ?_
  refine WL.op rfl (Op1.assign .bool) ?_
  refine WL.nr ?_
  refine WL.op rfl (Op1.fieldAddr Tryd.underlying83 rfl (fun w => ⟨0, Tryd.sizeOf3 w⟩) fapi_Step_0 (.tmp rfl)) ?_
  refine WL.op rfl (Op1.load ty3 (.tmp rfl)) ?_
  refine WL.op rfl (Op1.eqI (.tmp rfl) (.int (inR64.2 (by omega)))) ?_
  refine WL.mv rfl rfl ?_
  rcases bcases (decide (s0_.Kind = (0 : Int))) with hb1 | hb1
  · have hp2 := of_decide_eq_true hb1
    rw [if_pos hp2] at hm
    refine WL.run rfl rfl rfl rfl hb1 rfl rfl (Op1.fieldAddr Tryd.underlying83 rfl (fun w => ⟨0, Tryd.sizeOf9 w⟩) fapi_Step_1 (.tmp rfl)) ?_
    refine WL.run rfl rfl rfl rfl hb1 rfl rfl (Op1.load ty9 (.tmp rfl)) ?_
    refine WL.run rfl rfl rfl rfl hb1 rfl rfl (Op1.eqS (.tmp rfl) (.str rfl (by decide))) ?_
    refine WL.op rfl (Op1.pickT (.tmp rfl) hb1 (.tmp rfl)) ?_
    refine WL.gv rfl rfl ?_
    refine WL.ns ?_
    cases hm
    exact W.ret1 () rfl (.tmp rfl) trivial
  · have hp2 := of_decide_eq_false hb1
    rw [if_neg hp2] at hm
    refine WL.pass rfl rfl rfl rfl hb1 rfl rfl ?_
    refine WL.pass rfl rfl rfl rfl hb1 rfl rfl ?_
    refine WL.pass rfl rfl rfl rfl hb1 rfl rfl ?_
    refine WL.op rfl (Op1.pickF (.tmp rfl) hb1 .bool) ?_
    refine WL.gv rfl rfl ?_
    refine WL.ns ?_
    cases hm
    exact W.ret1 () rfl (.tmp rfl) trivial

theorem strings_indexFunc_spec (n : Nat) (s0_ : Str) (f : Int → Option Bool) (truth : Bool) (r : Int) (hm : M.strings_indexFunc n s0_ f truth = some r) : FSpec Tryd.prog 102 [(tS.is s0_), (tF Tryd.prog (fun s : Int × Bool => f s.1 = some s.2) (fun s : Int × Bool => [(tI .i32).is s.1]) (fun s : Int × Bool => (tB.is s.2))), (tB.is truth)] ((tI .i64).is r) := by
  unfold M.strings_indexFunc at hm
  refine FSpec.of Tryd.func102 rfl rfl rfl (fun g0 => ?_)
  refine W.sr ?_
  refine WL.op rfl (Op1.assign (.int (inR64.2 (by omega)))) ?_
  refine WL.ns ?_
  refine W.seq ?_
  refine W.sr ?_
  refine WL.mv rfl rfl ?_
  refine WL.opR rfl (OpR.range 10 Tryd.underlying9 (.tmp rfl)) (fun b => ?_)
  refine WL.ns ?_
  refine W.block ?_
  obtain ⟨s1, hs2, hk3⟩ := bind_some hm
  clear hm
  refine W.loop (fun m (s : Nat) => M.strings_indexFunc_loop1 s0_ f truth m s = some s1) (fun s => [(1, (tF Tryd.prog (fun s : Int × Bool => f s.1 = some s.2) (fun s : Int × Bool => [(tI .i32).is s.1]) (fun s : Int × Bool => (tB.is s.2)))), (2, (tB.is truth)), (10, (Bp b 0))]) (fun s => [(10, It s0_ s b)]) _ 0 hs2 ⟨Ent.q rfl, Ent.q rfl, Ent.q rfl, trivial⟩ ⟨rfl, rfl, trivial⟩ ?_
  rintro n4 v hm
  try dsimp only at hm
  change W _ _ _ _ _ _ _ [(1, (tF Tryd.prog (fun s : Int × Bool => f s.1 = some s.2) (fun s : Int × Bool => [(tI .i32).is s.1]) (fun s : Int × Bool => (tB.is s.2)))), (2, (tB.is truth)), (10, (Bp b 0))] [(10, It s0_ v b)]
  cases n4 with
  | zero => rw [M.strings_indexFunc_loop1.eq_1] at hm; cases hm
  | succ n4 =>
    rw [M.strings_indexFunc_loop1.eq_2] at hm
    refine W.sr ?_
    by_cases hp5 : v < s0_.length
    · rw [if_pos hp5] at hm
      refine WL.opR rfl (OpR.nextT (b := b) 10 hp5 rfl (.tmp rfl)) (fun _ => ?_)
      refine WL.op rfl (Op1.extract30 (.tmp rfl)) ?_
      refine WL.ns ?_
      refine W.seq ?_
      refine W.condT (.tmp rfl) ?_
      refine W.skip ?_
      refine WN.seq ?_
      refine W.block ?_
      refine W.sr ?_
      refine WL.op rfl (Op1.extract31 (.tmp rfl)) ?_
      refine WL.op rfl (Op1.extract32 (.tmp rfl)) ?_
      refine WL.gv rfl rfl ?_
      refine WL.gv rfl rfl ?_
      refine WL.nr ?_
      refine WL.mv rfl rfl ?_
      refine WL.mv rfl rfl ?_
      obtain ⟨v1, hv6, hm⟩ := bind_some hm
      refine WL.op rfl (Op1.callF (ok := (fun s : Int × Bool => f s.1 = some s.2)) (As := (fun s : Int × Bool => [(tI .i32).is s.1])) (A := (fun s : Int × Bool => (tB.is s.2))) (s := (((runeAt s0_ v).1 : Int), v1)) (.tmp rfl) hv6 ⟨(.tmp rfl), trivial⟩) ?_
      refine WL.mv rfl rfl ?_
      refine WL.op rfl (Op1.eqB Tryd.underlying4 (.tmp rfl) (.tmp rfl)) ?_
      refine WL.ns ?_
      refine W.cond (.tmp rfl) (fun hc7 => ?_) (fun hc7 => ?_)
      · have hp8 := hc7
        rw [if_pos hp8] at hm
        refine W.sr ?_
        refine WL.mv rfl rfl ?_
        refine WL.gv rfl rfl ?_
        refine WL.ns ?_
        have hr9 := Option.some.inj hm
        clear hm
        subst hr9
        have hm := hk3
        try dsimp only at hm
        cases hm
        exact W.ret1 () rfl (.tmp rfl) trivial
      · have hp8 := ne_of_false hc7
        rw [if_neg hp8] at hm
        refine W.skip ?_
        refine WN.block ?_
        exact WN.again n4 (v + (runeAt s0_ v).2) (Nat.lt_succ_self n4) hm ⟨Ent.q rfl, Ent.q rfl, Ent.q rfl, trivial⟩ ⟨rfl, rfl, trivial⟩
    · rw [if_neg hp5] at hm
      refine WL.op rfl (Op1.nextF 10 hp5 rfl (.tmp rfl)) ?_
      refine WL.op rfl (Op1.extract10 (.tmp rfl)) ?_
      refine WL.ns ?_
      refine W.seq ?_
      refine W.condF (.tmp rfl) ?_
      refine W.exit rfl ?_
      have hr10 := Option.some.inj hm
      clear hm
      subst hr10
      have hm := hk3
      try dsimp only at hm
      refine WN.seq ?_
      refine W.sr ?_
      refine WL.op rfl (Op1.assign (.int (inR64.2 (by omega)))) ?_
      refine WL.ns ?_
      cases hm
      exact W.ret1 () rfl (.tmp rfl) trivial

theorem strings_IndexFunc_spec (n : Nat) (s0_ : Str) (f : Int → Option Bool) (r : Int) (hm : M.strings_IndexFunc n s0_ f = some r) : FSpec Tryd.prog 90 [(tS.is s0_), (tF Tryd.prog (fun s : Int × Bool => f s.1 = some s.2) (fun s : Int × Bool => [(tI .i32).is s.1]) (fun s : Int × Bool => (tB.is s.2)))] ((tI .i64).is r) := by
  unfold M.strings_IndexFunc at hm
  refine FSpec.of Tryd.func90 rfl rfl rfl (fun g0 => ?_)
  refine W.sr ?_
  refine WL.op rfl (Op1.assign (.int (inR64.2 (by omega)))) ?_
  refine WL.nr ?_
  refine WL.mv rfl rfl ?_
  refine WL.mv rfl rfl ?_
  obtain ⟨indexf, hv1, hm⟩ := bind_some hm
  refine WL.op rfl (Op1.call Tryd.call102 (strings_indexFunc_spec _ _ _ _ _ hv1) ⟨(.tmp rfl), (.tmp rfl), .bool, trivial⟩) ?_
  refine WL.gv rfl rfl ?_
  refine WL.ns ?_
  cases hm
  exact W.ret1 () rfl (.tmp rfl) trivial

theorem label_parted_1_spec (b : Int) (r : Bool) (hm : M.label_parted_1 b = some r) : FSpec Tryd.prog 91 [((tI .i32).is b)] (tB.is r) := by
  unfold M.label_parted_1 at hm
  refine FSpec.of Tryd.func91 rfl rfl rfl (fun g0 => ?_)
  refine W.sr ?_
  refine WL.op rfl (Op1.assign .bool) ?_
  refine WL.nr ?_
  refine WL.mv rfl rfl ?_
  refine WL.op rfl (Op1.ltI (.tmp rfl) (.int (inR32.2 (by omega)))) ?_
  refine WL.mv rfl rfl ?_
  rcases bcases (decide (b < (48 : Int))) with hb1 | hb1
  · have hp2 := of_decide_eq_true hb1
    rw [if_pos hp2] at hm
    refine WL.pass rfl rfl rfl rfl hb1 rfl rfl ?_
    refine WL.pass rfl rfl rfl rfl hb1 rfl rfl ?_
    refine WL.op rfl (Op1.pickT (.tmp rfl) hb1 .bool) ?_
    refine WL.gv rfl rfl ?_
    refine WL.ns ?_
    cases hm
    exact W.ret1 () rfl (.tmp rfl) trivial
  · have hp2 := of_decide_eq_false hb1
    rw [if_neg hp2] at hm
    refine WL.run rfl rfl rfl rfl hb1 rfl rfl (Op1.move (.tmp rfl)) ?_
    refine WL.run rfl rfl rfl rfl hb1 rfl rfl (Op1.gtI (.tmp rfl) (.int (inR32.2 (by omega)))) ?_
    refine WL.op rfl (Op1.pickF (.tmp rfl) hb1 (.tmp rfl)) ?_
    refine WL.gv rfl rfl ?_
    refine WL.ns ?_
    cases hm
    exact W.ret1 () rfl (.tmp rfl) trivial

theorem label_parted_spec (n : Nat) (s0_ : Str) (r : Str × Str) (hm : M.label_parted n s0_ = some r) : FSpec Tryd.prog 72 [(tS.is s0_)] (Asn.tuple2 (tS.is r.1) (tS.is r.2)) := by
  unfold M.label_parted at hm
  refine FSpec.of Tryd.func72 rfl rfl rfl (fun g0 => ?_)
  refine W.sr ?_
  refine WL.op rfl (Op1.assign (.str rfl (by decide))) ?_
  refine WL.op rfl (Op1.assign (.str rfl (by decide))) ?_
  refine WL.nr ?_
  refine WL.mv rfl rfl ?_
  obtain ⟨indexf, hv1, hm⟩ := bind_some hm
  refine WL.op rfl (Op1.call Tryd.call90 (strings_IndexFunc_spec _ _ _ _ hv1) ⟨(.tmp rfl), (Opd.fn Tryd.call91 (fun s hs => label_parted_1_spec _ _ hs)), trivial⟩) ?_
  refine WL.gv rfl rfl ?_
  refine WL.ns ?_
  refine W.seq ?_
  refine W.sr ?_
  refine WL.mv rfl rfl ?_
  refine WL.op rfl (Op1.ltI (.tmp rfl) (.int (inR64.2 (by omega)))) ?_
  refine WL.ns ?_
  refine W.cond (.tmp rfl) (fun hc2 => ?_) (fun hc2 => ?_)
  · have hp3 := of_decide_eq_true hc2
    rw [if_pos hp3] at hm
    refine W.sr ?_
    refine WL.mv rfl rfl ?_
    refine WL.gv rfl rfl ?_
    refine WL.op rfl (Op1.assign (.str rfl (by decide))) ?_
    refine WL.ns ?_
    cases hm
    exact W.ret2 () rfl rfl (.tmp rfl) (.tmp rfl) trivial
  · have hp3 := of_decide_eq_false hc2
    rw [if_neg hp3] at hm
    refine W.skip ?_
    refine WN.seq ?_
    refine W.seq ?_
    obtain ⟨v, hv4, hm⟩ := bind_some hm
    obtain ⟨v1, hv5, hm⟩ := bind_some hm
    refine W.draw [.c (tS.is s0_), .c ((tI .i64).is indexf), .c (tS.is v), .c (tS.is s0_), .c ((tI .i64).is indexf), .c (tS.is v1), .c (tS.is v), .c (tS.is v1)] [([], [0]), ([], [4]), ([0, 1], []), ([], [0]), ([], [4]), ([3, 4], []), ([2], []), ([5], [])] Tryd.mixed rfl rfl rfl rfl ⟨.inr (Op1.move (.tmp rfl)), .inr (Op1.move (.tmp rfl)), .inr (Op1.sslcHi hv4 Tryd.underlying9 (.tmp rfl) (.tmp rfl)), .inr (Op1.move (.tmp rfl)), .inr (Op1.move (.tmp rfl)), .inr (Op1.sslcLo hv5 Tryd.underlying9 (.tmp rfl) (.tmp rfl)), .inr (Op1.assign (.tmp rfl)), .inr (Op1.assign (.tmp rfl)), trivial⟩ ?_
    refine WN.seq ?_
    cases hm
    exact W.ret2 () rfl rfl (.tmp rfl) (.tmp rfl) trivial

theorem strings_ContainsFunc_spec (n : Nat) (s0_ : Str) (f : Int → Option Bool) (r : Bool) (hm : M.strings_ContainsFunc n s0_ f = some r) : FSpec Tryd.prog 74 [(tS.is s0_), (tF Tryd.prog (fun s : Int × Bool => f s.1 = some s.2) (fun s : Int × Bool => [(tI .i32).is s.1]) (fun s : Int × Bool => (tB.is s.2)))] (tB.is r) := by
  unfold M.strings_ContainsFunc at hm
  refine FSpec.of Tryd.func74 rfl rfl rfl (fun g0 => ?_)
  refine W.sr ?_
  refine WL.op rfl (Op1.assign .bool) ?_
  refine WL.nr ?_
  refine WL.mv rfl rfl ?_
  refine WL.mv rfl rfl ?_
  obtain ⟨indexf, hv1, hm⟩ := bind_some hm
  refine WL.op rfl (Op1.call Tryd.call90 (strings_IndexFunc_spec _ _ _ _ hv1) ⟨(.tmp rfl), (.tmp rfl), trivial⟩) ?_
  refine WL.op rfl (Op1.geI (.tmp rfl) (.int (inR64.2 (by omega)))) ?_
  refine WL.gv rfl rfl ?_
  refine WL.ns ?_
  cases hm
  exact W.ret1 () rfl (.tmp rfl) trivial

theorem label_Valid_1_spec (b : Int) (r : Bool) (hm : M.label_Valid_1 b = some r) : FSpec Tryd.prog 73 [((tI .i32).is b)] (tB.is r) := by
  unfold M.label_Valid_1 at hm
  refine FSpec.of Tryd.func73 rfl rfl rfl (fun g0 => ?_)
  refine W.sr ?_
  refine WL.op rfl (Op1.assign .bool) ?_
  refine WL.nr ?_
  refine WL.mv rfl rfl ?_
  refine WL.op rfl (Op1.ltI (.tmp rfl) (.int (inR32.2 (by omega)))) ?_
  refine WL.mv rfl rfl ?_
  rcases bcases (decide (b < (65 : Int))) with hb1 | hb1
  · have hp2 := of_decide_eq_true hb1
    rw [if_pos hp2] at hm
    refine WL.pass rfl rfl rfl rfl hb1 rfl rfl ?_
    refine WL.pass rfl rfl rfl rfl hb1 rfl rfl ?_
    refine WL.op rfl (Op1.pickT (.tmp rfl) hb1 .bool) ?_
    refine WL.gv rfl rfl ?_
    refine WL.ns ?_
    cases hm
    exact W.ret1 () rfl (.tmp rfl) trivial
  · have hp2 := of_decide_eq_false hb1
    rw [if_neg hp2] at hm
    refine WL.run rfl rfl rfl rfl hb1 rfl rfl (Op1.move (.tmp rfl)) ?_
    refine WL.run rfl rfl rfl rfl hb1 rfl rfl (Op1.gtI (.tmp rfl) (.int (inR32.2 (by omega)))) ?_
    refine WL.op rfl (Op1.pickF (.tmp rfl) hb1 (.tmp rfl)) ?_
    refine WL.gv rfl rfl ?_
    refine WL.ns ?_
    cases hm
    exact W.ret1 () rfl (.tmp rfl) trivial

theorem label_Valid_spec (n : Nat) (s0_ : Str) (r : Bool) (hm : M.label_Valid n s0_ = some r) : FSpec Tryd.prog 62 [(tS.is s0_)] (tB.is r) := by
  unfold M.label_Valid at hm
  refine FSpec.of Tryd.func62 rfl rfl rfl (fun g0 => ?_)
  refine W.sr ?_
  refine WL.op rfl (Op1.assign .bool) ?_
  refine WL.nr ?_
  refine WL.mv rfl rfl ?_
  obtain ⟨parted, hv1, hm⟩ := bind_some hm
  refine WL.op rfl (Op1.call Tryd.call72 (label_parted_spec _ _ _ hv1) ⟨(.tmp rfl), trivial⟩) ?_
  refine WL.mv rfl rfl ?_
  refine WL.op rfl (Op1.extract0 (.tmp rfl)) ?_
  refine WL.op rfl (Op1.extract1 (.tmp rfl)) ?_
  refine WL.gv rfl rfl ?_
  refine WL.gv rfl rfl ?_
  refine WL.nr ?_
  refine WL.op rfl (Op1.assign .func) ?_
  refine WL.nr ?_
  refine WL.mv rfl rfl ?_
  refine WL.op rfl (Op1.lenS Tryd.underlying9 (.tmp rfl)) ?_
  refine WL.op rfl (Op1.geI (.tmp rfl) (.int (inR64.2 (by omega)))) ?_
  refine WL.mv rfl rfl ?_
  rcases bcases (decide ((1 : Int) ≤ (parted.1.length : Int))) with hb2 | hb2
  · have hp3 := of_decide_eq_true hb2
    rw [if_pos hp3] at hm
    refine WL.run rfl rfl rfl rfl hb2 rfl rfl (Op1.move (.tmp rfl)) ?_
    refine WL.run rfl rfl rfl rfl hb2 rfl rfl (Op1.lenS Tryd.underlying9 (.tmp rfl)) ?_
    refine WL.run rfl rfl rfl rfl hb2 rfl rfl (Op1.leI (.tmp rfl) (.int (inR64.2 (by omega)))) ?_
    refine WL.op rfl (Op1.pickT (.tmp rfl) hb2 (.tmp rfl)) ?_
    refine WL.mv rfl rfl ?_
    rcases bcases (decide ((parted.1.length : Int) ≤ (4 : Int))) with hb4 | hb4
    · have hp5 := of_decide_eq_true hb4
      rw [if_pos hp5] at hm
      refine WL.run rfl rfl rfl rfl hb4 rfl rfl (Op1.move (.tmp rfl)) ?_
      obtain ⟨b, hv6, hm⟩ := bind_some hm
      refine WL.run rfl rfl rfl rfl hb4 rfl rfl (Op1.sidx hv6 Tryd.underlying9 (.tmp rfl) (.int (inR64.2 (by omega)))) ?_
      refine WL.run rfl rfl rfl rfl hb4 rfl rfl (Op1.neI (.tmp rfl) (.int (inR8.2 (by omega)))) ?_
      refine WL.op rfl (Op1.pickT (.tmp rfl) hb4 (.tmp rfl)) ?_
      refine WL.mv rfl rfl ?_
      rcases bcases (decide ((b.toNat : Int) ≠ (48 : Int))) with hb7 | hb7
      · have hp8 := of_decide_eq_true hb7
        rw [if_pos hp8] at hm
        refine WL.run rfl rfl rfl rfl hb7 rfl rfl (Op1.move (.tmp rfl)) ?_
        refine WL.run rfl rfl rfl rfl hb7 rfl rfl (Op1.lenS Tryd.underlying9 (.tmp rfl)) ?_
        refine WL.run rfl rfl rfl rfl hb7 rfl rfl (Op1.leI (.tmp rfl) (.int (inR64.2 (by omega)))) ?_
        refine WL.op rfl (Op1.pickT (.tmp rfl) hb7 (.tmp rfl)) ?_
        refine WL.mv rfl rfl ?_
        rcases bcases (decide ((parted.2.length : Int) ≤ (3 : Int))) with hb9 | hb9
        · have hp10 := of_decide_eq_true hb9
          rw [if_pos hp10] at hm
          refine WL.run rfl rfl rfl rfl hb9 rfl rfl (Op1.move (.tmp rfl)) ?_
          refine WL.run rfl rfl rfl rfl hb9 rfl rfl (Op1.move (.tmp rfl)) ?_
          obtain ⟨contai, hv11, hm⟩ := bind_some hm
          refine WL.run rfl rfl rfl rfl hb9 rfl rfl (Op1.call Tryd.call74 (strings_ContainsFunc_spec _ _ _ _ hv11) ⟨(.tmp rfl), (Opd.fnE (.tmp rfl) Tryd.call73 (fun s hs => label_Valid_1_spec _ _ hs)), trivial⟩) ?_
          refine WL.run rfl rfl rfl rfl hb9 rfl rfl (Op1.notB (.tmp rfl)) ?_
          refine WL.op rfl (Op1.pickT (.tmp rfl) hb9 (.tmp rfl)) ?_
          refine WL.gv rfl rfl ?_
          refine WL.ns ?_
          cases hm
          exact W.ret1 () rfl (.tmp rfl) trivial
        · have hp10 := of_decide_eq_false hb9
          rw [if_neg hp10] at hm
          refine WL.pass rfl rfl rfl rfl hb9 rfl rfl ?_
          refine WL.pass rfl rfl rfl rfl hb9 rfl rfl ?_
          refine WL.pass rfl rfl rfl rfl hb9 rfl rfl ?_
          refine WL.pass rfl rfl rfl rfl hb9 rfl rfl ?_
          refine WL.op rfl (Op1.pickF (.tmp rfl) hb9 .bool) ?_
          refine WL.gv rfl rfl ?_
          refine WL.ns ?_
          cases hm
          exact W.ret1 () rfl (.tmp rfl) trivial
      · have hp8 := of_decide_eq_false hb7
        rw [if_neg hp8] at hm
        refine WL.pass rfl rfl rfl rfl hb7 rfl rfl ?_
        refine WL.pass rfl rfl rfl rfl hb7 rfl rfl ?_
        refine WL.pass rfl rfl rfl rfl hb7 rfl rfl ?_
        refine WL.op rfl (Op1.pickF (.tmp rfl) hb7 .bool) ?_
        refine WL.mv rfl rfl ?_
        refine WL.pass rfl rfl rfl rfl rfl rfl rfl ?_
        refine WL.pass rfl rfl rfl rfl rfl rfl rfl ?_
        refine WL.pass rfl rfl rfl rfl rfl rfl rfl ?_
        refine WL.pass rfl rfl rfl rfl rfl rfl rfl ?_
        refine WL.op rfl (Op1.pickF (.tmp rfl) rfl .bool) ?_
        refine WL.gv rfl rfl ?_
        refine WL.ns ?_
        cases hm
        exact W.ret1 () rfl (.tmp rfl) trivial
    · have hp5 := of_decide_eq_false hb4
      rw [if_neg hp5] at hm
      refine WL.pass rfl rfl rfl rfl hb4 rfl rfl ?_
      refine WL.pass rfl rfl rfl rfl hb4 rfl rfl ?_
      refine WL.pass rfl rfl rfl rfl hb4 rfl rfl ?_
      refine WL.op rfl (Op1.pickF (.tmp rfl) hb4 .bool) ?_
      refine WL.mv rfl rfl ?_
      refine WL.pass rfl rfl rfl rfl rfl rfl rfl ?_
      refine WL.pass rfl rfl rfl rfl rfl rfl rfl ?_
      refine WL.pass rfl rfl rfl rfl rfl rfl rfl ?_
      refine WL.op rfl (Op1.pickF (.tmp rfl) rfl .bool) ?_
      refine WL.mv rfl rfl ?_
      refine WL.pass rfl rfl rfl rfl rfl rfl rfl ?_
      refine WL.pass rfl rfl rfl rfl rfl rfl rfl ?_
      refine WL.pass rfl rfl rfl rfl rfl rfl rfl ?_
      refine WL.pass rfl rfl rfl rfl rfl rfl rfl ?_
      refine WL.op rfl (Op1.pickF (.tmp rfl) rfl .bool) ?_
      refine WL.gv rfl rfl ?_
      refine WL.ns ?_
      cases hm
      exact W.ret1 () rfl (.tmp rfl) trivial
  · have hp3 := of_decide_eq_false hb2
    rw [if_neg hp3] at hm
    refine WL.pass rfl rfl rfl rfl hb2 rfl rfl ?_
    refine WL.pass rfl rfl rfl rfl hb2 rfl rfl ?_
    refine WL.pass rfl rfl rfl rfl hb2 rfl rfl ?_
    refine WL.op rfl (Op1.pickF (.tmp rfl) hb2 .bool) ?_
    refine WL.mv rfl rfl ?_
    refine WL.pass rfl rfl rfl rfl rfl rfl rfl ?_
    refine WL.pass rfl rfl rfl rfl rfl rfl rfl ?_
    refine WL.pass rfl rfl rfl rfl rfl rfl rfl ?_
    refine WL.op rfl (Op1.pickF (.tmp rfl) rfl .bool) ?_
    refine WL.mv rfl rfl ?_
    refine WL.pass rfl rfl rfl rfl rfl rfl rfl ?_
    refine WL.pass rfl rfl rfl rfl rfl rfl rfl ?_
    refine WL.pass rfl rfl rfl rfl rfl rfl rfl ?_
    refine WL.op rfl (Op1.pickF (.tmp rfl) rfl .bool) ?_
    refine WL.mv rfl rfl ?_
    refine WL.pass rfl rfl rfl rfl rfl rfl rfl ?_
    refine WL.pass rfl rfl rfl rfl rfl rfl rfl ?_
    refine WL.pass rfl rfl rfl rfl rfl rfl rfl ?_
    refine WL.pass rfl rfl rfl rfl rfl rfl rfl ?_
    refine WL.op rfl (Op1.pickF (.tmp rfl) rfl .bool) ?_
    refine WL.gv rfl rfl ?_
    refine WL.ns ?_
    cases hm
    exact W.ret1 () rfl (.tmp rfl) trivial

theorem address_Valid_spec (n : Nat) (p : List api_Step) (r : Bool) (hm : M.address_Valid n p = some r) : FSpec Tryd.prog 46 [((tL tapi_Step).is p)] (tB.is r) := by
  unfold M.address_Valid at hm
  refine FSpec.of Tryd.func46 rfl rfl rfl (fun g0 => ?_)
  refine W.sr ?_
  refine WL.op rfl (Op1.assign .bool) ?_
  refine WL.ns ?_
  refine W.seq ?_
  refine W.sr ?_
  refine WL.mv rfl rfl ?_
  refine WL.op rfl (Op1.lenL Tryd.underlying63 (.tmp rfl)) ?_
  refine WL.op rfl (Op1.move (.int (inR64.2 (by omega)))) ?_
  refine WL.ns ?_
  refine W.block ?_
  obtain ⟨s1, hs2, hk3⟩ := bind_some hm
  clear hm
  refine W.loop (fun m (s : Int × List api_Step × List api_Step × Unit) => m = s.2.2.1.length ∧ p = s.2.1 ++ s.2.2.1 ∧ s.1 = (s.2.1.length : Int) ∧ M.address_Valid_loop1 n s.2.2.1 s.1 = some s1) (fun s => [(7, ((tI .i64).is s.1)), (0, ((tL tapi_Step).is p)), (5, ((tL tapi_Step).is p)), (6, ((tI .i64).is (p.length : Int)))]) (fun s => []) p.length ((0 : Int), [], p, ()) ⟨rfl, rfl, rfl, hs2⟩ ⟨Ent.q rfl, Ent.q rfl, Ent.q rfl, Ent.q rfl, trivial⟩ trivial ?_
  rintro m ⟨i, pre, rest1, _⟩ ⟨hn7, hxs4, hi5, hm⟩
  try dsimp only at hn7 hxs4 hi5 hm
  change W _ _ _ _ _ _ _ [(7, ((tI .i64).is i)), (0, ((tL tapi_Step).is p)), (5, ((tL tapi_Step).is p)), (6, ((tI .i64).is (p.length : Int)))] []
  refine W.lenL (s := 5) (.tmp rfl) fun hlen6 => ?_
  refine W.sr ?_
  refine WL.op rfl (Op1.ltI (.tmp rfl) (.tmp rfl)) ?_
  refine WL.ns ?_
  refine W.seq ?_
  refine W.cond (.tmp rfl) (fun hc9 => ?_) (fun hc9 => ?_)
  · have hp10 := of_decide_eq_true hc9
    obtain ⟨e, es, hrest12⟩ := range_more hxs4 hi5 hp10
    subst hrest12
    rw [M.address_Valid_loop1.eq_2] at hm
    refine W.skip ?_
    refine WN.seq ?_
    refine W.seq ?_
    refine W.block ?_
    refine W.sr ?_
    refine WL.mv rfl rfl ?_
    refine WL.op rfl (Op1.idxPre hxs4 hi5 Tryd.underlying63 Tryd.sizeOf83 (.tmp rfl) (.tmp rfl)) ?_
    refine WL.op rfl (Op1.load ty83 (.tmp rfl)) ?_
    refine WL.opR rfl (OpR.alloc 4 ze83) (fun b => ?_)
    refine WL.gv rfl rfl ?_
    refine WL.opU (OpR.storeB (b := b) 4 Tryd.sizeOf83 (Cellable.is tapi_Step e) rfl (.tmp rfl) (.tmp rfl)) (fun _ => ?_)
    refine WL.sealed (t := tapi_Step) (u := e) 4 4 rfl rfl ?_
    refine WL.ns ?_
    refine W.seq ?_
    obtain ⟨s13, hs14, hk15⟩ := bind_some hm
    clear hm
    refine W.join (fun s : Bool => s = s13) (fun s => [(17, (tB.is s)), (0, ((tL tapi_Step).is p)), (4, (tapi_Step.ptr e)), (5, ((tL tapi_Step).is p)), (6, ((tI .i64).is (p.length : Int))), (7, ((tI .i64).is i))]) (fun s => []) ?_ ?_
    · rintro v hj31
      try dsimp only at hj31
      subst hj31
      have hm := hk15
      clear hk15
      try dsimp only at hm
      change W _ _ _ _ _ _ _ [(17, (tB.is v)), (0, ((tL tapi_Step).is p)), (4, (tapi_Step.ptr e)), (5, ((tL tapi_Step).is p)), (6, ((tI .i64).is (p.length : Int))), (7, ((tI .i64).is i))] []
      refine W.cond (.tmp rfl) (fun hc19 => ?_) (fun hc19 => ?_)
      · have hp20 := hc19
        rw [if_pos hp20] at hm
        refine W.exit rfl ?_
        refine WN.seq ?_
        refine W.region ?_
        refine WL.op rfl (Op1.addI (.tmp rfl) (.int (inR64.2 (by omega))) (range_inR hi5 hp10 hlen6)) ?_
        refine WL.mv rfl rfl ?_
        refine WL.nil ?_
        exact WN.again es.length (i + 1, pre ++ [e], es, ()) (range_lt hn7) ⟨rfl, range_step hxs4, range_idx hi5, hm⟩ ⟨Ent.q rfl, Ent.q rfl, Ent.q rfl, Ent.q rfl, trivial⟩ trivial
      · have hp20 := ne_of_false hc19
        rw [if_neg hp20] at hm
        refine W.skip ?_
        refine WN.seq ?_
        refine W.sr ?_
        refine WL.op rfl (Op1.fieldAddr Tryd.underlying83 rfl (fun w => ⟨0, Tryd.sizeOf3 w⟩) fapi_Step_0 (.tmp rfl)) ?_
        refine WL.op rfl (Op1.load ty3 (.tmp rfl)) ?_
        refine WL.op rfl (Op1.leI (.tmp rfl) (.int (inR64.2 (by omega)))) ?_
        refine WL.mv rfl rfl ?_
        rcases bcases (decide (e.Kind ≤ (0 : Int))) with hb21 | hb21
        · have hp22 := of_decide_eq_true hb21
          rw [if_pos hp22] at hm
          refine WL.pass rfl rfl rfl rfl hb21 rfl rfl ?_
          refine WL.pass rfl rfl rfl rfl hb21 rfl rfl ?_
          refine WL.pass rfl rfl rfl rfl hb21 rfl rfl ?_
          refine WL.op rfl (Op1.pickT (.tmp rfl) hb21 .bool) ?_
          refine WL.mv rfl rfl ?_
          refine WL.pass rfl rfl rfl rfl rfl rfl rfl ?_
          refine WL.pass rfl rfl rfl rfl rfl rfl rfl ?_
          refine WL.pass rfl rfl rfl rfl rfl rfl rfl ?_
          refine WL.pass rfl rfl rfl rfl rfl rfl rfl ?_
          refine WL.op rfl (Op1.pickT (.tmp rfl) rfl .bool) ?_
          refine WL.ns ?_
          refine W.condT (.tmp rfl) ?_
          refine W.sr ?_
          refine WL.op rfl (Op1.assign .bool) ?_
          refine WL.ns ?_
          have hr23 := Option.some.inj hm
          clear hm
          subst hr23
          have hm := hk3
          try dsimp only at hm
          cases hm
          exact W.ret1 () rfl (.tmp rfl) trivial
        · have hp22 := of_decide_eq_false hb21
          rw [if_neg hp22] at hm
          refine WL.run rfl rfl rfl rfl hb21 rfl rfl (Op1.fieldAddr Tryd.underlying83 rfl (fun w => ⟨0, Tryd.sizeOf3 w⟩) fapi_Step_0 (.tmp rfl)) ?_
          refine WL.run rfl rfl rfl rfl hb21 rfl rfl (Op1.load ty3 (.tmp rfl)) ?_
          refine WL.run rfl rfl rfl rfl hb21 rfl rfl (Op1.gtI (.tmp rfl) (.int (inR64.2 (by omega)))) ?_
          refine WL.op rfl (Op1.pickF (.tmp rfl) hb21 (.tmp rfl)) ?_
          refine WL.mv rfl rfl ?_
          rcases bcases (decide ((7 : Int) < e.Kind)) with hb24 | hb24
          · have hp25 := of_decide_eq_true hb24
            rw [if_pos hp25] at hm
            refine WL.pass rfl rfl rfl rfl hb24 rfl rfl ?_
            refine WL.pass rfl rfl rfl rfl hb24 rfl rfl ?_
            refine WL.pass rfl rfl rfl rfl hb24 rfl rfl ?_
            refine WL.pass rfl rfl rfl rfl hb24 rfl rfl ?_
            refine WL.op rfl (Op1.pickT (.tmp rfl) hb24 .bool) ?_
            refine WL.ns ?_
            refine W.condT (.tmp rfl) ?_
            refine W.sr ?_
            refine WL.op rfl (Op1.assign .bool) ?_
            refine WL.ns ?_
            have hr26 := Option.some.inj hm
            clear hm
            subst hr26
            have hm := hk3
            try dsimp only at hm
            cases hm
            exact W.ret1 () rfl (.tmp rfl) trivial
          · have hp25 := of_decide_eq_false hb24
            rw [if_neg hp25] at hm
            refine WL.run rfl rfl rfl rfl hb24 rfl rfl (Op1.fieldAddr Tryd.underlying83 rfl (fun w => ⟨0, Tryd.sizeOf9 w⟩) fapi_Step_1 (.tmp rfl)) ?_
            refine WL.run rfl rfl rfl rfl hb24 rfl rfl (Op1.load ty9 (.tmp rfl)) ?_
            obtain ⟨valid, hv27, hm⟩ := bind_some hm
            refine WL.run rfl rfl rfl rfl hb24 rfl rfl (Op1.call Tryd.call62 (label_Valid_spec _ _ _ hv27) ⟨(.tmp rfl), trivial⟩) ?_
            refine WL.run rfl rfl rfl rfl hb24 rfl rfl (Op1.notB (.tmp rfl)) ?_
            refine WL.op rfl (Op1.pickF (.tmp rfl) hb24 (.tmp rfl)) ?_
            refine WL.ns ?_
            refine W.cond (.tmp rfl) (fun hc28 => ?_) (fun hc28 => ?_)
            · have hp29 := not_pos hc28
              rw [if_pos hp29] at hm
              refine W.sr ?_
              refine WL.op rfl (Op1.assign .bool) ?_
              refine WL.ns ?_
              have hr30 := Option.some.inj hm
              clear hm
              subst hr30
              have hm := hk3
              try dsimp only at hm
              cases hm
              exact W.ret1 () rfl (.tmp rfl) trivial
            · have hp29 := not_neg hc28
              rw [if_neg hp29] at hm
              refine W.skip ?_
              refine WN.block ?_
              refine WN.seq ?_
              refine W.region ?_
              refine WL.op rfl (Op1.addI (.tmp rfl) (.int (inR64.2 (by omega))) (range_inR hi5 hp10 hlen6)) ?_
              refine WL.mv rfl rfl ?_
              refine WL.nil ?_
              exact WN.again es.length (i + 1, pre ++ [e], es, ()) (range_lt hn7) ⟨rfl, range_step hxs4, range_idx hi5, hm⟩ ⟨Ent.q rfl, Ent.q rfl, Ent.q rfl, Ent.q rfl, trivial⟩ trivial
    · have hm := hs14
      clear hs14
      refine W.region ?_
      refine WL.mv rfl rfl ?_
      refine WL.op rfl (Op1.eqI (.tmp rfl) (.int (inR64.2 (by omega)))) ?_
      refine WL.mv rfl rfl ?_
      rcases bcases (decide (i = (0 : Int))) with hb16 | hb16
      · have hp17 := of_decide_eq_true hb16
        rw [if_pos hp17] at hm
        refine WL.run rfl rfl rfl rfl hb16 rfl rfl (Op1.load ty83 (.tmp rfl)) ?_
        obtain ⟨book, hv18, hm⟩ := bind_some hm
        refine WL.run rfl rfl rfl rfl hb16 rfl rfl (Op1.call Tryd.call48 (address_book_spec _ _ hv18) ⟨(.tmp rfl), trivial⟩) ?_
        refine WL.op rfl (Op1.pickT (.tmp rfl) hb16 (.tmp rfl)) ?_
        refine WL.nil ?_
        exact WN.meet book (Option.some.inj hm) ⟨Ent.q rfl, Ent.q rfl, Ent.q rfl, Ent.q rfl, Ent.q rfl, Ent.q rfl, trivial⟩ trivial
      · have hp17 := of_decide_eq_false hb16
        rw [if_neg hp17] at hm
        refine WL.pass rfl rfl rfl rfl hb16 rfl rfl ?_
        refine WL.pass rfl rfl rfl rfl hb16 rfl rfl ?_
        refine WL.op rfl (Op1.pickF (.tmp rfl) hb16 .bool) ?_
        refine WL.nil ?_
        exact WN.meet false (Option.some.inj hm) ⟨Ent.q rfl, Ent.q rfl, Ent.q rfl, Ent.q rfl, Ent.q rfl, Ent.q rfl, trivial⟩ trivial
  · have hrest12 := range_end hxs4 hi5 (of_decide_eq_false hc9)
    subst hrest12
    rw [M.address_Valid_loop1.eq_1] at hm
    refine W.exit rfl ?_
    have hr32 := Option.some.inj hm
    clear hm
    subst hr32
    have hm := hk3
    try dsimp only at hm
    refine WN.seq ?_
    refine W.sr ?_
    refine WL.mv rfl rfl ?_
    refine WL.op rfl (Op1.lenL Tryd.underlying63 (.tmp rfl)) ?_
    refine WL.op rfl (Op1.leI (.tmp rfl) (.int (inR64.2 (by omega)))) ?_
    refine WL.gv rfl rfl ?_
    refine WL.ns ?_
    cases hm
    exact W.ret1 () rfl (.tmp rfl) trivial

theorem address_name_spec (kind : Int) (r : Str × Bool) (hm : M.address_name kind = some r) : FSpec Tryd.prog 47 [((tI .i64).is kind)] (Asn.tuple2 (tS.is r.1) (tB.is r.2)) := by
  unfold M.address_name at hm
  refine FSpec.of Tryd.func47 rfl rfl rfl (fun g0 => ?_)
  refine W.sr ?_
  refine WL.op rfl (Op1.assign (.str rfl (by decide))) ?_
  refine WL.op rfl (Op1.assign .bool) ?_
  refine WL.nr ?_
  refine WL.op rfl (Op1.buildA (ys := [(0, ([98, 111, 111, 107] : Str)), (1, ([112, 97, 114, 116] : Str)), (2, ([115, 101, 99, 116, 105, 111, 110] : Str)), (3, ([112, 97, 114, 97, 103, 114, 97, 112, 104] : Str)), (4, ([116, 97, 98, 108, 101] : Str)), (5, ([114, 111, 119] : Str)), (6, ([99, 101, 108, 108] : Str)), (7, ([110, 111, 116, 101] : Str))]) (z := ([] : Str)) (xs := [([98, 111, 111, 107] : Str), ([112, 97, 114, 116] : Str), ([115, 101, 99, 116, 105, 111, 110] : Str), ([112, 97, 114, 97, 103, 114, 97, 112, 104] : Str), ([116, 97, 98, 108, 101] : Str), ([114, 111, 119] : Str), ([99, 101, 108, 108] : Str), ([110, 111, 116, 101] : Str)]) Tryd.underlying97 Tryd.sizeOf9 ze97 ⟨rfl, (.str rfl (by decide)), rfl, (.str rfl (by decide)), rfl, (.str rfl (by decide)), rfl, (.str rfl (by decide)), rfl, (.str rfl (by decide)), rfl, (.str rfl (by decide)), rfl, (.str rfl (by decide)), rfl, (.str rfl (by decide)), trivial⟩ (by simp) rfl) ?_
  refine WL.opR rfl (OpR.alloc 4 ze97) (fun b => ?_)
  refine WL.opU (OpR.storeB (b := b) 4 Tryd.sizeOf97 (Cellable.is (tA 8 tS) ([([98, 111, 111, 107] : Str), ([112, 97, 114, 116] : Str), ([115, 101, 99, 116, 105, 111, 110] : Str), ([112, 97, 114, 97, 103, 114, 97, 112, 104] : Str), ([116, 97, 98, 108, 101] : Str), ([114, 111, 119] : Str), ([99, 101, 108, 108] : Str), ([110, 111, 116, 101] : Str)])) rfl (.tmp rfl) (.tmp rfl)) (fun _ => ?_)
  refine WL.sealed (t := (tA 8 tS)) (u := ([([98, 111, 111, 107] : Str), ([112, 97, 114, 116] : Str), ([115, 101, 99, 116, 105, 111, 110] : Str), ([112, 97, 114, 97, 103, 114, 97, 112, 104] : Str), ([116, 97, 98, 108, 101] : Str), ([114, 111, 119] : Str), ([99, 101, 108, 108] : Str), ([110, 111, 116, 101] : Str)])) 4 4 rfl rfl ?_
  refine WL.ns ?_
  refine W.seq ?_
  refine W.sr ?_
  refine WL.mv rfl rfl ?_
  refine WL.op rfl (Op1.ltI (.tmp rfl) (.int (inR64.2 (by omega)))) ?_
  refine WL.mv rfl rfl ?_
  rcases bcases (decide (kind < (0 : Int))) with hb1 | hb1
  · have hp2 := of_decide_eq_true hb1
    rw [if_pos hp2] at hm
    refine WL.pass rfl rfl rfl rfl hb1 rfl rfl ?_
    refine WL.pass rfl rfl rfl rfl hb1 rfl rfl ?_
    refine WL.op rfl (Op1.pickT (.tmp rfl) hb1 .bool) ?_
    refine WL.ns ?_
    refine W.condT (.tmp rfl) ?_
    refine W.sr ?_
    refine WL.op rfl (Op1.assign (.str rfl (by decide))) ?_
    refine WL.op rfl (Op1.assign .bool) ?_
    refine WL.ns ?_
    cases hm
    exact W.ret2 () rfl rfl (.tmp rfl) (.tmp rfl) trivial
  · have hp2 := of_decide_eq_false hb1
    rw [if_neg hp2] at hm
    refine WL.run rfl rfl rfl rfl hb1 rfl rfl (Op1.move (.tmp rfl)) ?_
    refine WL.run rfl rfl rfl rfl hb1 rfl rfl (Op1.geI (.tmp rfl) (.int (inR64.2 (by omega)))) ?_
    refine WL.op rfl (Op1.pickF (.tmp rfl) hb1 (.tmp rfl)) ?_
    refine WL.ns ?_
    refine W.cond (.tmp rfl) (fun hc3 => ?_) (fun hc3 => ?_)
    · have hp4 := of_decide_eq_true hc3
      rw [if_pos hp4] at hm
      refine W.sr ?_
      refine WL.op rfl (Op1.assign (.str rfl (by decide))) ?_
      refine WL.op rfl (Op1.assign .bool) ?_
      refine WL.ns ?_
      cases hm
      exact W.ret2 () rfl rfl (.tmp rfl) (.tmp rfl) trivial
    · have hp4 := of_decide_eq_false hc3
      rw [if_neg hp4] at hm
      refine W.skip ?_
      refine WN.seq ?_
      refine W.sr ?_
      refine WL.mv rfl rfl ?_
      obtain ⟨v, hv5, hm⟩ := bind_some hm
      refine WL.op rfl (Op1.idxA hv5 Tryd.underlying97 Tryd.sizeOf9 (.tmp rfl) (.tmp rfl)) ?_
      refine WL.op rfl (Op1.load ty9 (.tmp rfl)) ?_
      refine WL.gv rfl rfl ?_
      refine WL.op rfl (Op1.assign .bool) ?_
      refine WL.ns ?_
      cases hm
      exact W.ret2 () rfl rfl (.tmp rfl) (.tmp rfl) trivial

theorem strings_Builder_Grow_spec (n : Int) (b : Nat) {u : Unit} (hm : growC n = some u) : FSpecR Tryd.prog 63 [Bp b 0, (tI .i64).is n] [(0, Bx 2 true 74 (bldA none [] b) b), (1, Own (tI .u8) 5 none 0)] (fun _ : Tok => Asn.eq (.tuple #[])) (fun k => [(0, Bx 2 true 74 (bldA k [] b) b), (1, Own (tI .u8) 5 k 0)]) :=
  FSpecR.bldGrow bld_used bld_fresh bld_Grow 0 1 n b hm

theorem strings_Join_spec (elems : List Str) (sep : Str) (r : Str) (hm : M.strings_Join elems sep = some r) : FSpec Tryd.prog 49 [((tL tS).is elems), (tS.is sep)] (tS.is r) := by
  unfold M.strings_Join at hm
  refine FSpec.of Tryd.func49 rfl rfl rfl (fun g0 => ?_)
  refine W.sr ?_
  refine WL.op rfl (Op1.assign (.str rfl (by decide))) ?_
  refine WL.ns ?_
  refine W.seq ?_
  refine W.sr ?_
  refine WL.mv rfl rfl ?_
  refine WL.op rfl (Op1.lenL Tryd.underlying46 (.tmp rfl)) ?_
  refine WL.ns ?_
  refine W.block ?_
  refine W.sr ?_
  refine WL.op rfl (Op1.eqI (.tmp rfl) (.int (inR64.2 (by omega)))) ?_
  refine WL.gv rfl rfl ?_
  refine WL.ns ?_
  refine W.cond (.tmp rfl) (fun hc1 => ?_) (fun hc1 => ?_)
  · have hp2 := of_decide_eq_true hc1
    rw [if_pos hp2] at hm
    refine W.sr ?_
    refine WL.op rfl (Op1.assign (.str rfl (by decide))) ?_
    refine WL.ns ?_
    cases hm
    exact W.ret1 () rfl (.tmp rfl) trivial
  · have hp2 := of_decide_eq_false hc1
    rw [if_neg hp2] at hm
    refine W.sr ?_
    refine WL.op rfl (Op1.eqI (.tmp rfl) (.int (inR64.2 (by omega)))) ?_
    refine WL.gv rfl rfl ?_
    refine WL.ns ?_
    refine W.cond (.tmp rfl) (fun hc3 => ?_) (fun hc3 => ?_)
    · have hp4 := of_decide_eq_true hc3
      rw [if_pos hp4] at hm
      refine W.sr ?_
      refine WL.mv rfl rfl ?_
      obtain ⟨v, hv5, hm⟩ := bind_some hm
      refine WL.op rfl (Op1.idx hv5 Tryd.underlying46 Tryd.sizeOf9 (.tmp rfl) (.int (inR64.2 (by omega)))) ?_
      refine WL.op rfl (Op1.load ty9 (.tmp rfl)) ?_
      refine WL.gv rfl rfl ?_
      refine WL.ns ?_
      cases hm
      exact W.ret1 () rfl (.tmp rfl) trivial
    · have hp4 := of_decide_eq_false hc3
      rw [if_neg hp4] at hm
      refine W.skip ?_
      refine WN.block ?_
      refine WN.seq ?_
      refine W.sr ?_
      refine WL.op rfl (Op1.assign (.int (inR64.2 (by omega)))) ?_
      refine WL.ns ?_
      obtain ⟨s6, hs7, hk8⟩ := bind_some hm
      clear hm
      refine W.join (fun s : Int => s = s6) (fun s => [(5, ((tI .i64).is s)), (0, ((tL tS).is elems)), (1, (tS.is sep))]) (fun s => []) ?_ ?_
      · rintro n0_ hj58
        try dsimp only at hj58
        subst hj58
        have hm := hk8
        clear hk8
        try dsimp only at hm
        change W _ _ _ _ _ _ _ [(5, ((tI .i64).is n0_)), (0, ((tL tS).is elems)), (1, (tS.is sep))] []
        refine W.seq ?_
        refine W.sr ?_
        refine WL.mv rfl rfl ?_
        refine WL.op rfl (Op1.lenL Tryd.underlying46 (.tmp rfl)) ?_
        refine WL.op rfl (Op1.move (.int (inR64.2 (by omega)))) ?_
        refine WL.ns ?_
        refine W.block ?_
        obtain ⟨s22, hs23, hk24⟩ := bind_some hm
        clear hm
        refine W.loop (fun m (s : Int × List Str × List Str × Int) => m = s.2.2.1.length ∧ elems = s.2.1 ++ s.2.2.1 ∧ s.1 = (s.2.1.length : Int) ∧ M.strings_Join_loop1 s.2.2.1 s.2.2.2 = some s22) (fun s => [(41, ((tI .i64).is s.1)), (5, ((tI .i64).is s.2.2.2)), (0, ((tL tS).is elems)), (1, (tS.is sep)), (39, ((tL tS).is elems)), (40, ((tI .i64).is (elems.length : Int)))]) (fun s => []) elems.length ((0 : Int), [], elems, n0_) ⟨rfl, rfl, rfl, hs23⟩ ⟨Ent.q rfl, Ent.q rfl, Ent.q rfl, Ent.q rfl, Ent.q rfl, Ent.q rfl, trivial⟩ trivial ?_
        rintro m ⟨i, pre, rest3, n0_1⟩ ⟨hn28, hxs25, hi26, hm⟩
        try dsimp only at hn28 hxs25 hi26 hm
        change W _ _ _ _ _ _ _ [(41, ((tI .i64).is i)), (5, ((tI .i64).is n0_1)), (0, ((tL tS).is elems)), (1, (tS.is sep)), (39, ((tL tS).is elems)), (40, ((tI .i64).is (elems.length : Int)))] []
        refine W.lenL (s := 39) (.tmp rfl) fun hlen27 => ?_
        refine W.sr ?_
        refine WL.op rfl (Op1.ltI (.tmp rfl) (.tmp rfl)) ?_
        refine WL.ns ?_
        refine W.seq ?_
        refine W.cond (.tmp rfl) (fun hc30 => ?_) (fun hc30 => ?_)
        · have hp31 := of_decide_eq_true hc30
          obtain ⟨e, es, hrest33⟩ := range_more hxs25 hi26 hp31
          subst hrest33
          rw [M.strings_Join_loop1.eq_2] at hm
          refine W.skip ?_
          refine WN.seq ?_
          refine W.seq ?_
          refine W.block ?_
          refine W.sr ?_
          refine WL.op rfl (Op1.idxPre hxs25 hi26 Tryd.underlying46 Tryd.sizeOf9 (.tmp rfl) (.tmp rfl)) ?_
          refine WL.op rfl (Op1.load ty9 (.tmp rfl)) ?_
          refine WL.gv rfl rfl ?_
          refine WL.ns ?_
          refine W.seq ?_
          refine W.sr ?_
          refine WL.mv rfl rfl ?_
          refine WL.op rfl (Op1.lenS Tryd.underlying9 (.tmp rfl)) ?_
          refine WL.mv rfl rfl ?_
          obtain ⟨v6, hv34, hm⟩ := bind_some hm
          refine WL.op rfl (Op1.subC hv34 (.int (inR64.2 (by omega))) (.tmp rfl)) ?_
          refine WL.op rfl (Op1.gtI (.tmp rfl) (.tmp rfl)) ?_
          refine WL.ns ?_
          refine W.cond (.tmp rfl) (fun hc35 => ?_) (fun hc35 => ?_)
          · have hp36 := of_decide_eq_true hc35
            rw [if_pos hp36] at hm
            cases hm
          · have hp36 := of_decide_eq_false hc35
            rw [if_neg hp36] at hm
            refine W.skip ?_
            refine WN.seq ?_
            refine W.region ?_
            refine WL.mv rfl rfl ?_
            refine WL.mv rfl rfl ?_
            refine WL.op rfl (Op1.lenS Tryd.underlying9 (.tmp rfl)) ?_
            obtain ⟨v7, hv37, hm⟩ := bind_some hm
            refine WL.op rfl (Op1.addC hv37 (.tmp rfl) (.tmp rfl)) ?_
            refine WL.gv rfl rfl ?_
            refine WL.nil ?_
            refine WN.block ?_
            refine WN.seq ?_
            refine W.region ?_
            refine WL.op rfl (Op1.addI (.tmp rfl) (.int (inR64.2 (by omega))) (range_inR hi26 hp31 hlen27)) ?_
            refine WL.mv rfl rfl ?_
            refine WL.nil ?_
            exact WN.again es.length (i + 1, pre ++ [e], es, v7) (range_lt hn28) ⟨rfl, range_step hxs25, range_idx hi26, hm⟩ ⟨Ent.q rfl, Ent.q rfl, Ent.q rfl, Ent.q rfl, Ent.q rfl, Ent.q rfl, trivial⟩ trivial
        · have hrest33 := range_end hxs25 hi26 (of_decide_eq_false hc30)
          subst hrest33
          rw [M.strings_Join_loop1.eq_1] at hm
          refine W.exit rfl ?_
          have hr38 := Option.some.inj hm
          clear hm
          subst hr38
          have hm := hk24
          try dsimp only at hm
          refine WN.seq ?_
          refine W.sr ?_
          refine WL.addNil (t := (tI .u8)) (E := 5) 1000008 ?_
          refine WL.opR rfl (OpR.allocBld 8 Tryd.zeroValue74) (fun b => ?_)
          refine WL.nr ?_
          refine WL.mv rfl rfl ?_
          obtain ⟨_, hv39, hm⟩ := bind_some hm
          refine WL.weakR (res' := [(8, (Bx 2 true 74 (bldA (none : Tok) ([] : Str) b) b)), (1000008, Own (tI .u8) 5 (none : Tok) ([] : Str).length)]) ⟨rfl, rfl, ⟨rfl, rfl, trivial⟩⟩ ?_
          refine WL.opR rfl (OpR.call (us := [8, 1000008]) (A := fun kx : Tok => (Asn.eq (.tuple #[]))) Tryd.call63 (FSpecR.keys (rin' := [(8, (Bx 2 true 74 (bldA (none : Tok) ([] : Str) b) b)), (1000008, Own (tI .u8) 5 (none : Tok) ([] : Str).length)]) (out' := fun kx : Tok => [(8, (Bx 2 true 74 (bldA kx ([] : Str) b) b)), (1000008, Own (tI .u8) 5 kx ([] : Str).length)]) (strings_Builder_Grow_spec _ _ hv39) rfl (fun _ => rfl)) rfl ⟨(.tmp rfl), (.tmp rfl), trivial⟩) (fun k => ?_)
          refine WL.nr ?_
          refine WL.mv rfl rfl ?_
          obtain ⟨v8, hv40, hm⟩ := bind_some hm
          refine WL.op rfl (Op1.idx hv40 Tryd.underlying46 Tryd.sizeOf9 (.tmp rfl) (.int (inR64.2 (by omega)))) ?_
          refine WL.op rfl (Op1.load ty9 (.tmp rfl)) ?_
          obtain ⟨b1, hv41, hm⟩ := bind_some hm
          refine WL.weakR (res' := [(8, (Bx 2 true 74 (bldA k ([] : Str) b) b)), (1000008, Own (tI .u8) 5 k ([] : Str).length)]) ⟨rfl, rfl, ⟨rfl, rfl, trivial⟩⟩ ?_
          refine WL.opR rfl (OpR.call (us := [8, 1000008]) (A := fun kx : Tok => Asn.any) Tryd.call40 (FSpecR.keys (rin' := [(8, (Bx 2 true 74 (bldA k ([] : Str) b) b)), (1000008, Own (tI .u8) 5 k ([] : Str).length)]) (out' := fun kx : Tok => [(8, (Bx 2 true 74 (bldA kx b1 b) b)), (1000008, Own (tI .u8) 5 kx b1.length)]) (strings_Builder_WriteString_spec _ _ _ _ _ hv41) rfl (fun _ => rfl)) rfl ⟨(.tmp rfl), (.tmp rfl), trivial⟩) (fun k1 => ?_)
          refine WL.ns ?_
          refine W.seq ?_
          refine W.sr ?_
          refine WL.mv rfl rfl ?_
          obtain ⟨v9, hv42, hm⟩ := bind_some hm
          refine WL.op rfl (Op1.slcLo hv42 Tryd.underlying46 Tryd.sizeOf9 (.tmp rfl) (.int (inR64.2 (by omega)))) ?_
          refine WL.op rfl (Op1.lenL Tryd.underlying46 (.tmp rfl)) ?_
          refine WL.op rfl (Op1.move (.int (inR64.2 (by omega)))) ?_
          refine WL.ns ?_
          refine W.block ?_
          obtain ⟨s43, hs44, hk45⟩ := bind_some hm
          clear hm
          refine W.loop (fun m (s : Int × List Str × List Str × ((Str) × Tok)) => m = s.2.2.1.length ∧ v9 = s.2.1 ++ s.2.2.1 ∧ s.1 = (s.2.1.length : Int) ∧ M.strings_Join_loop2 sep s.2.2.1 s.2.2.2.1 = some s43) (fun s => [(65, ((tI .i64).is s.1)), (1, (tS.is sep)), (8, (Bp b 0)), (63, ((tL tS).is v9)), (64, ((tI .i64).is (v9.length : Int)))]) (fun s => [(1000008, Own (tI .u8) 5 s.2.2.2.2 s.2.2.2.1.length), (8, (Bx 2 true 74 (bldA s.2.2.2.2 s.2.2.2.1 b) b))]) v9.length ((0 : Int), [], v9, (b1, k1)) ⟨rfl, rfl, rfl, hs44⟩ ⟨Ent.q rfl, Ent.q rfl, Ent.q rfl, Ent.q rfl, Ent.q rfl, trivial⟩ ⟨rfl, rfl, ⟨rfl, rfl, trivial⟩⟩ ?_
          rintro m ⟨i1, pre1, rest2, ⟨b2, k2⟩⟩ ⟨hn49, hxs46, hi47, hm⟩
          try dsimp only at hn49 hxs46 hi47 hm
          change W _ _ _ _ _ _ _ [(65, ((tI .i64).is i1)), (1, (tS.is sep)), (8, (Bp b 0)), (63, ((tL tS).is v9)), (64, ((tI .i64).is (v9.length : Int)))] [(1000008, Own (tI .u8) 5 k2 b2.length), (8, (Bx 2 true 74 (bldA k2 b2 b) b))]
          refine W.lenL (s := 63) (.tmp rfl) fun hlen48 => ?_
          refine W.sr ?_
          refine WL.op rfl (Op1.ltI (.tmp rfl) (.tmp rfl)) ?_
          refine WL.ns ?_
          refine W.seq ?_
          refine W.cond (.tmp rfl) (fun hc51 => ?_) (fun hc51 => ?_)
          · have hp52 := of_decide_eq_true hc51
            obtain ⟨e1, es1, hrest54⟩ := range_more hxs46 hi47 hp52
            subst hrest54
            rw [M.strings_Join_loop2.eq_2] at hm
            refine W.skip ?_
            refine WN.seq ?_
            refine W.seq ?_
            refine W.block ?_
            refine W.sr ?_
            refine WL.op rfl (Op1.idxPre hxs46 hi47 Tryd.underlying46 Tryd.sizeOf9 (.tmp rfl) (.tmp rfl)) ?_
            refine WL.op rfl (Op1.load ty9 (.tmp rfl)) ?_
            refine WL.gv rfl rfl ?_
            refine WL.nr ?_
            refine WL.mv rfl rfl ?_
            obtain ⟨b3, hv55, hm⟩ := bind_some hm
            refine WL.weakR (res' := [(8, (Bx 2 true 74 (bldA k2 b2 b) b)), (1000008, Own (tI .u8) 5 k2 b2.length)]) ⟨rfl, rfl, ⟨rfl, rfl, trivial⟩⟩ ?_
            refine WL.opR rfl (OpR.call (us := [8, 1000008]) (A := fun kx : Tok => Asn.any) Tryd.call40 (FSpecR.keys (rin' := [(8, (Bx 2 true 74 (bldA k2 b2 b) b)), (1000008, Own (tI .u8) 5 k2 b2.length)]) (out' := fun kx : Tok => [(8, (Bx 2 true 74 (bldA kx b3 b) b)), (1000008, Own (tI .u8) 5 kx b3.length)]) (strings_Builder_WriteString_spec _ _ _ _ _ hv55) rfl (fun _ => rfl)) rfl ⟨(.tmp rfl), (.tmp rfl), trivial⟩) (fun k3 => ?_)
            refine WL.nr1 ?_
            refine WL.mv rfl rfl ?_
            obtain ⟨b4, hv56, hm⟩ := bind_some hm
            refine WL.weakR (res' := [(8, (Bx 2 true 74 (bldA k3 b3 b) b)), (1000008, Own (tI .u8) 5 k3 b3.length)]) ⟨rfl, rfl, ⟨rfl, rfl, trivial⟩⟩ ?_
            refine WL.opR rfl (OpR.call (us := [8, 1000008]) (A := fun kx : Tok => Asn.any) Tryd.call40 (FSpecR.keys (rin' := [(8, (Bx 2 true 74 (bldA k3 b3 b) b)), (1000008, Own (tI .u8) 5 k3 b3.length)]) (out' := fun kx : Tok => [(8, (Bx 2 true 74 (bldA kx b4 b) b)), (1000008, Own (tI .u8) 5 kx b4.length)]) (strings_Builder_WriteString_spec _ _ _ _ _ hv56) rfl (fun _ => rfl)) rfl ⟨(.tmp rfl), (.tmp rfl), trivial⟩) (fun k4 => ?_)
            refine WL.nil ?_
            refine WN.block ?_
            refine WN.seq ?_
            refine W.region ?_
            refine WL.op rfl (Op1.addI (.tmp rfl) (.int (inR64.2 (by omega))) (range_inR hi47 hp52 hlen48)) ?_
            refine WL.mv rfl rfl ?_
            refine WL.nil ?_
            exact WN.again es1.length (i1 + 1, pre1 ++ [e1], es1, (b4, k4)) (range_lt hn49) ⟨rfl, range_step hxs46, range_idx hi47, hm⟩ ⟨Ent.q rfl, Ent.q rfl, Ent.q rfl, Ent.q rfl, Ent.q rfl, trivial⟩ ⟨rfl, rfl, ⟨rfl, rfl, trivial⟩⟩
          · have hrest54 := range_end hxs46 hi47 (of_decide_eq_false hc51)
            subst hrest54
            rw [M.strings_Join_loop2.eq_1] at hm
            refine W.exit rfl ?_
            have hr57 := Option.some.inj hm
            clear hm
            subst hr57
            have hm := hk45
            try dsimp only at hm
            refine WN.seq ?_
            refine W.sr ?_
            refine WL.weakR (res' := [(8, (Bx 2 true 74 (bldA k2 b2 b) b)), (1000008, Own (tI .u8) 5 k2 b2.length)]) ⟨rfl, rfl, ⟨rfl, rfl, trivial⟩⟩ ?_
            refine WL.opR rfl (OpR.call (us := [8, 1000008]) (A := fun kx : Unit => tS.is b2) Tryd.call42 (FSpecR.keys (rin' := [(8, (Bx 2 true 74 (bldA k2 b2 b) b)), (1000008, Own (tI .u8) 5 k2 b2.length)]) (out' := fun kx : Unit => []) (strings_Builder_String_spec _ _ _) rfl (fun _ => rfl)) rfl ⟨(.tmp rfl), trivial⟩) (fun _ => ?_)
            refine WL.gv rfl rfl ?_
            refine WL.ns ?_
            cases hm
            exact W.ret1 () rfl (.tmp rfl) trivial
      · have hm := hs7
        clear hs7
        refine W.sr ?_
        refine WL.mv rfl rfl ?_
        refine WL.op rfl (Op1.lenS Tryd.underlying9 (.tmp rfl)) ?_
        refine WL.op rfl (Op1.gtI (.tmp rfl) (.int (inR64.2 (by omega)))) ?_
        refine WL.ns ?_
        refine W.cond (.tmp rfl) (fun hc9 => ?_) (fun hc9 => ?_)
        · have hp10 := of_decide_eq_true hc9
          rw [if_pos hp10] at hm
          obtain ⟨s11, hs12, hk13⟩ := bind_some hm
          clear hm
          refine W.join (fun s : Unit => s = s11) (fun s => [(0, ((tL tS).is elems)), (1, (tS.is sep)), (5, ((tI .i64).is (0 : Int)))]) (fun s => []) ?_ ?_
          · rintro _ hj21
            try dsimp only at hj21
            subst hj21
            have hm := hk13
            clear hk13
            try dsimp only at hm
            change W _ _ _ _ _ _ _ [(0, ((tL tS).is elems)), (1, (tS.is sep)), (5, ((tI .i64).is (0 : Int)))] []
            refine W.region ?_
            refine WL.mv rfl rfl ?_
            refine WL.mv rfl rfl ?_
            refine WL.op rfl (Op1.lenS Tryd.underlying9 (.tmp rfl)) ?_
            refine WL.mv rfl rfl ?_
            refine WL.op rfl (Op1.lenL Tryd.underlying46 (.tmp rfl)) ?_
            obtain ⟨v3, hv18, hm⟩ := bind_some hm
            refine WL.op rfl (Op1.subC hv18 (.tmp rfl) (.int (inR64.2 (by omega)))) ?_
            obtain ⟨v4, hv19, hm⟩ := bind_some hm
            refine WL.op rfl (Op1.mulC hv19 (.tmp rfl) (.tmp rfl)) ?_
            obtain ⟨v5, hv20, hm⟩ := bind_some hm
            refine WL.op rfl (Op1.addC hv20 (.tmp rfl) (.tmp rfl)) ?_
            refine WL.gv rfl rfl ?_
            refine WL.nil ?_
            exact WN.meet v5 (Option.some.inj hm) ⟨Ent.q rfl, Ent.q rfl, Ent.q rfl, trivial⟩ trivial
          · have hm := hs12
            clear hs12
            refine W.sr ?_
            refine WL.mv rfl rfl ?_
            refine WL.op rfl (Op1.lenS Tryd.underlying9 (.tmp rfl)) ?_
            refine WL.mv rfl rfl ?_
            refine WL.op rfl (Op1.lenL Tryd.underlying46 (.tmp rfl)) ?_
            obtain ⟨v1, hv14, hm⟩ := bind_some hm
            refine WL.op rfl (Op1.subC hv14 (.tmp rfl) (.int (inR64.2 (by omega)))) ?_
            obtain ⟨v2, hv15, hm⟩ := bind_some hm
            refine WL.op rfl (Op1.quoC hv15 (.int (inR64.2 (by omega))) (.tmp rfl)) ?_
            refine WL.op rfl (Op1.geI (.tmp rfl) (.tmp rfl)) ?_
            refine WL.ns ?_
            refine W.cond (.tmp rfl) (fun hc16 => ?_) (fun hc16 => ?_)
            · have hp17 := of_decide_eq_true hc16
              rw [if_pos hp17] at hm
              cases hm
            · have hp17 := of_decide_eq_false hc16
              rw [if_neg hp17] at hm
              refine W.skip ?_
              exact WN.meet () (Option.some.inj hm) ⟨Ent.q rfl, Ent.q rfl, Ent.q rfl, trivial⟩ trivial
        · have hp10 := of_decide_eq_false hc9
          rw [if_neg hp10] at hm
          refine W.skip ?_
          exact WN.meet (0 : Int) (Option.some.inj hm) ⟨Ent.q rfl, Ent.q rfl, Ent.q rfl, trivial⟩ trivial

theorem address_Format_spec (n : Nat) (p : List api_Step) (r : Str) (hm : M.address_Format n p = some r) : FSpec Tryd.prog 34 [((tL tapi_Step).is p)] (tS.is r) := by
  unfold M.address_Format at hm
  refine FSpec.of Tryd.func34 rfl rfl rfl (fun g0 => ?_)
  refine W.sr ?_
  refine WL.op rfl (Op1.assign (.str rfl (by decide))) ?_
  refine WL.ns ?_
  refine W.seq ?_
  refine W.sr ?_
  refine WL.mv rfl rfl ?_
  obtain ⟨valid, hv1, hm⟩ := bind_some hm
  refine WL.op rfl (Op1.call Tryd.call46 (address_Valid_spec _ _ _ hv1) ⟨(.tmp rfl), trivial⟩) ?_
  refine WL.op rfl (Op1.notB (.tmp rfl)) ?_
  refine WL.ns ?_
  refine W.cond (.tmp rfl) (fun hc2 => ?_) (fun hc2 => ?_)
  · have hp3 := not_pos hc2
    rw [if_pos hp3] at hm
    refine W.sr ?_
    refine WL.op rfl (Op1.assign (.str rfl (by decide))) ?_
    refine WL.ns ?_
    cases hm
    exact W.ret1 () rfl (.tmp rfl) trivial
  · have hp3 := not_neg hc2
    rw [if_neg hp3] at hm
    refine W.skip ?_
    refine WN.seq ?_
    refine W.sr ?_
    refine WL.addNil (t := tS) (E := 9) 3 ?_
    refine WL.op rfl (Op1.assign (Opd.nilO (t := tS))) ?_
    refine WL.ns ?_
    refine W.seq ?_
    refine W.sr ?_
    refine WL.mv rfl rfl ?_
    refine WL.op rfl (Op1.lenL Tryd.underlying63 (.tmp rfl)) ?_
    refine WL.op rfl (Op1.move (.int (inR64.2 (by omega)))) ?_
    refine WL.ns ?_
    refine W.block ?_
    obtain ⟨s4, hs5, hk6⟩ := bind_some hm
    clear hm
    refine W.loop (fun m (s : Int × List api_Step × List api_Step × (((List Str)) × Tok)) => m = s.2.2.1.length ∧ p = s.2.1 ++ s.2.2.1 ∧ s.1 = (s.2.1.length : Int) ∧ M.address_Format_loop1 s.2.2.1 s.2.2.2.1 = some s4) (fun s => [(13, ((tI .i64).is s.1)), (3, (tO tS s.2.2.2.2 s.2.2.2.1)), (11, ((tL tapi_Step).is p)), (12, ((tI .i64).is (p.length : Int)))]) (fun s => [(3, Own tS 9 s.2.2.2.2 s.2.2.2.1.length)]) p.length ((0 : Int), [], p, (([] : List Str), (none : Tok))) ⟨rfl, rfl, rfl, hs5⟩ ⟨Ent.q rfl, Ent.q rfl, Ent.q rfl, Ent.q rfl, trivial⟩ ⟨rfl, rfl, trivial⟩ ?_
    rintro m ⟨i, pre, rest1, ⟨words, k⟩⟩ ⟨hn10, hxs7, hi8, hm⟩
    try dsimp only at hn10 hxs7 hi8 hm
    change W _ _ _ _ _ _ _ [(13, ((tI .i64).is i)), (3, (tO tS k words)), (11, ((tL tapi_Step).is p)), (12, ((tI .i64).is (p.length : Int)))] [(3, Own tS 9 k words.length)]
    refine W.lenL (s := 11) (.tmp rfl) fun hlen9 => ?_
    refine W.sr ?_
    refine WL.op rfl (Op1.ltI (.tmp rfl) (.tmp rfl)) ?_
    refine WL.ns ?_
    refine W.seq ?_
    refine W.cond (.tmp rfl) (fun hc12 => ?_) (fun hc12 => ?_)
    · have hp13 := of_decide_eq_true hc12
      obtain ⟨e, es, hrest15⟩ := range_more hxs7 hi8 hp13
      subst hrest15
      rw [M.address_Format_loop1.eq_2] at hm
      refine W.skip ?_
      refine WN.seq ?_
      refine W.seq ?_
      refine W.block ?_
      refine W.sr ?_
      refine WL.op rfl (Op1.idxPre hxs7 hi8 Tryd.underlying63 Tryd.sizeOf83 (.tmp rfl) (.tmp rfl)) ?_
      refine WL.op rfl (Op1.load ty83 (.tmp rfl)) ?_
      refine WL.opR rfl (OpR.alloc 5 ze83) (fun b => ?_)
      refine WL.opU (OpR.storeB (b := b) 5 Tryd.sizeOf83 (Cellable.is tapi_Step e) rfl (.tmp rfl) (.tmp rfl)) (fun _ => ?_)
      refine WL.sealed (t := tapi_Step) (u := e) 5 5 rfl rfl ?_
      refine WL.nr ?_
      refine WL.op rfl (Op1.fieldAddr Tryd.underlying83 rfl (fun w => ⟨0, Tryd.sizeOf3 w⟩) fapi_Step_0 (.tmp rfl)) ?_
      refine WL.op rfl (Op1.load ty3 (.tmp rfl)) ?_
      obtain ⟨name, hv16, hm⟩ := bind_some hm
      refine WL.op rfl (Op1.call Tryd.call47 (address_name_spec _ _ hv16) ⟨(.tmp rfl), trivial⟩) ?_
      refine WL.mv rfl rfl ?_
      refine WL.op rfl (Op1.extract0 (.tmp rfl)) ?_
      refine WL.op rfl (Op1.extract1 (.tmp rfl)) ?_
      refine WL.gv rfl rfl ?_
      refine WL.gv rfl rfl ?_
      refine WL.nr ?_
      refine WL.mv rfl rfl ?_
      refine WL.mv rfl rfl ?_
      refine WL.op rfl (Op1.buildSlice (n := 1) (ys := [(0, name.1)]) (z := ([] : Str)) (xs := [name.1]) Tryd.underlying46 el9 ze9 ⟨rfl, (.tmp rfl), trivial⟩ (by simp) (by decide) rfl) ?_
      obtain ⟨words1, hv17, hm⟩ := bind_some hm
      refine WL.opR rfl (OpR.appC (key := 3) hv17 Tryd.underlying46 el9 (.tmp rfl) (.tmp rfl) rfl) (fun k1 => ?_)
      refine WL.gv rfl rfl ?_
      refine WL.nr ?_
      refine WL.op rfl (Op1.load ty83 (.tmp rfl)) ?_
      obtain ⟨book, hv18, hm⟩ := bind_some hm
      refine WL.op rfl (Op1.call Tryd.call48 (address_book_spec _ _ hv18) ⟨(.tmp rfl), trivial⟩) ?_
      refine WL.op rfl (Op1.notB (.tmp rfl)) ?_
      refine WL.ns ?_
      refine W.cond (.tmp rfl) (fun hc19 => ?_) (fun hc19 => ?_)
      · have hp20 := not_pos hc19
        rw [if_pos hp20] at hm
        refine W.region ?_
        refine WL.mv rfl rfl ?_
        refine WL.op rfl (Op1.fieldAddr Tryd.underlying83 rfl (fun w => ⟨0, Tryd.sizeOf9 w⟩) fapi_Step_1 (.tmp rfl)) ?_
        refine WL.op rfl (Op1.load ty9 (.tmp rfl)) ?_
        refine WL.op rfl (Op1.buildSlice (n := 1) (ys := [(0, e.Label)]) (z := ([] : Str)) (xs := [e.Label]) Tryd.underlying46 el9 ze9 ⟨rfl, (.tmp rfl), trivial⟩ (by simp) (by decide) rfl) ?_
        obtain ⟨words2, hv21, hm⟩ := bind_some hm
        refine WL.opR rfl (OpR.appC (key := 3) hv21 Tryd.underlying46 el9 (.tmp rfl) (.tmp rfl) rfl) (fun k2 => ?_)
        refine WL.gv rfl rfl ?_
        refine WL.nil ?_
        refine WN.block ?_
        refine WN.seq ?_
        refine W.region ?_
        refine WL.op rfl (Op1.addI (.tmp rfl) (.int (inR64.2 (by omega))) (range_inR hi8 hp13 hlen9)) ?_
        refine WL.mv rfl rfl ?_
        refine WL.nil ?_
        exact WN.again es.length (i + 1, pre ++ [e], es, (words2, k2)) (range_lt hn10) ⟨rfl, range_step hxs7, range_idx hi8, hm⟩ ⟨Ent.q rfl, Ent.q rfl, Ent.q rfl, Ent.q rfl, trivial⟩ ⟨rfl, rfl, trivial⟩
      · have hp20 := not_neg hc19
        rw [if_neg hp20] at hm
        refine W.skip ?_
        refine WN.block ?_
        refine WN.seq ?_
        refine W.region ?_
        refine WL.op rfl (Op1.addI (.tmp rfl) (.int (inR64.2 (by omega))) (range_inR hi8 hp13 hlen9)) ?_
        refine WL.mv rfl rfl ?_
        refine WL.nil ?_
        exact WN.again es.length (i + 1, pre ++ [e], es, (words1, k1)) (range_lt hn10) ⟨rfl, range_step hxs7, range_idx hi8, hm⟩ ⟨Ent.q rfl, Ent.q rfl, Ent.q rfl, Ent.q rfl, trivial⟩ ⟨rfl, rfl, trivial⟩
    · have hrest15 := range_end hxs7 hi8 (of_decide_eq_false hc12)
      subst hrest15
      rw [M.address_Format_loop1.eq_1] at hm
      refine W.exit rfl ?_
      have hr22 := Option.some.inj hm
      clear hm
      subst hr22
      have hm := hk6
      try dsimp only at hm
      refine WN.seq ?_
      refine W.sr ?_
      refine WL.mv rfl rfl ?_
      obtain ⟨join, hv23, hm⟩ := bind_some hm
      refine WL.op rfl (Op1.call Tryd.call49 (strings_Join_spec _ _ _ hv23) ⟨(Opd.own (.tmp rfl)), (.str rfl (by decide)), trivial⟩) ?_
      refine WL.gv rfl rfl ?_
      refine WL.ns ?_
      cases hm
      exact W.ret1 () rfl (.tmp rfl) trivial

theorem destinations_Names_spec (n : Nat) (a : api_Unit) (b : api_Unit) (l : List api_Destination) (r : (List Str)) (hm : M.destinations_Names n a b l = some r) : FSpec Tryd.prog 23 [(tapi_Unit.is a), (tapi_Unit.is b), ((tL tapi_Destination).is l)] ((tL tS).is r) := by
  unfold M.destinations_Names at hm
  refine FSpec.of Tryd.func23 rfl rfl rfl (fun g0 => ?_)
  refine W.sr ?_
  refine WL.op rfl (Op1.box (.tmp rfl)) ?_
  refine WL.op rfl (Op1.box (.tmp rfl)) ?_
  refine WL.op rfl (Op1.assign (.nil (t := tS))) ?_
  refine WL.nr ?_
  refine WL.addNil (t := tS) (E := 9) 7 ?_
  refine WL.op rfl (Op1.assign (Opd.nilO (t := tS))) ?_
  refine WL.ns ?_
  refine W.seq ?_
  refine W.sr ?_
  refine WL.mv rfl rfl ?_
  refine WL.op rfl (Op1.lenL Tryd.underlying22 (.tmp rfl)) ?_
  refine WL.op rfl (Op1.move (.int (inR64.2 (by omega)))) ?_
  refine WL.ns ?_
  refine W.block ?_
  obtain ⟨s1, hs2, hk3⟩ := bind_some hm
  clear hm
  refine W.loop (fun m (s : Int × List api_Destination × List api_Destination × (((List Str)) × Tok)) => m = s.2.2.1.length ∧ l = s.2.1 ++ s.2.2.1 ∧ s.1 = (s.2.1.length : Int) ∧ M.destinations_Names_loop1 n a b s.2.2.1 s.2.2.2.1 = some s1) (fun s => [(16, ((tI .i64).is s.1)), (7, (tO tS s.2.2.2.2 s.2.2.2.1)), (3, (tapi_Unit.ptr a)), (4, (tapi_Unit.ptr b)), (14, ((tL tapi_Destination).is l)), (15, ((tI .i64).is (l.length : Int)))]) (fun s => [(7, Own tS 9 s.2.2.2.2 s.2.2.2.1.length)]) l.length ((0 : Int), [], l, (([] : List Str), (none : Tok))) ⟨rfl, rfl, rfl, hs2⟩ ⟨Ent.q rfl, Ent.q rfl, Ent.q rfl, Ent.q rfl, Ent.q rfl, Ent.q rfl, trivial⟩ ⟨rfl, rfl, trivial⟩ ?_
  rintro m ⟨i, pre, rest1, ⟨out, k⟩⟩ ⟨hn7, hxs4, hi5, hm⟩
  try dsimp only at hn7 hxs4 hi5 hm
  change W _ _ _ _ _ _ _ [(16, ((tI .i64).is i)), (7, (tO tS k out)), (3, (tapi_Unit.ptr a)), (4, (tapi_Unit.ptr b)), (14, ((tL tapi_Destination).is l)), (15, ((tI .i64).is (l.length : Int)))] [(7, Own tS 9 k out.length)]
  refine W.lenL (s := 14) (.tmp rfl) fun hlen6 => ?_
  refine W.sr ?_
  refine WL.op rfl (Op1.ltI (.tmp rfl) (.tmp rfl)) ?_
  refine WL.ns ?_
  refine W.seq ?_
  refine W.cond (.tmp rfl) (fun hc9 => ?_) (fun hc9 => ?_)
  · have hp10 := of_decide_eq_true hc9
    obtain ⟨e, es, hrest12⟩ := range_more hxs4 hi5 hp10
    subst hrest12
    rw [M.destinations_Names_loop1.eq_2] at hm
    refine W.skip ?_
    refine WN.seq ?_
    refine W.seq ?_
    refine W.block ?_
    refine W.sr ?_
    refine WL.op rfl (Op1.idxPre hxs4 hi5 Tryd.underlying22 Tryd.sizeOf36 (.tmp rfl) (.tmp rfl)) ?_
    refine WL.op rfl (Op1.load ty36 (.tmp rfl)) ?_
    refine WL.opR rfl (OpR.alloc 9 ze36) (fun b1 => ?_)
    refine WL.opU (OpR.storeB (b := b1) 9 Tryd.sizeOf36 (Cellable.is tapi_Destination e) rfl (.tmp rfl) (.tmp rfl)) (fun _ => ?_)
    refine WL.sealed (t := tapi_Destination) (u := e) 9 9 rfl rfl ?_
    refine WL.nr ?_
    refine WL.op rfl (Op1.load ty43 (.tmp rfl)) ?_
    refine WL.op rfl (Op1.fieldAddr Tryd.underlying36 rfl (fun w => ⟨2, Tryd.sizeOf24 w⟩) fapi_Destination_0 (.tmp rfl)) ?_
    refine WL.op rfl (Op1.load ty24 (.tmp rfl)) ?_
    obtain ⟨full, hv13, hm⟩ := bind_some hm
    refine WL.op rfl (Op1.call Tryd.call33 (address_Full_spec _ _ _ _ hv13) ⟨(.tmp rfl), (.tmp rfl), trivial⟩) ?_
    refine WL.mv rfl rfl ?_
    refine WL.op rfl (Op1.extract0 (.tmp rfl)) ?_
    refine WL.op rfl (Op1.extract1 (.tmp rfl)) ?_
    refine WL.gv rfl rfl ?_
    refine WL.gv rfl rfl ?_
    refine WL.nr ?_
    refine WL.op rfl (Op1.load ty43 (.tmp rfl)) ?_
    refine WL.op rfl (Op1.fieldAddr Tryd.underlying36 rfl (fun w => ⟨2, Tryd.sizeOf24 w⟩) fapi_Destination_1 (.tmp rfl)) ?_
    refine WL.op rfl (Op1.load ty24 (.tmp rfl)) ?_
    obtain ⟨full1, hv14, hm⟩ := bind_some hm
    refine WL.op rfl (Op1.call Tryd.call33 (address_Full_spec _ _ _ _ hv14) ⟨(.tmp rfl), (.tmp rfl), trivial⟩) ?_
    refine WL.mv rfl rfl ?_
    refine WL.op rfl (Op1.extract0 (.tmp rfl)) ?_
    refine WL.op rfl (Op1.extract1 (.tmp rfl)) ?_
    refine WL.gv rfl rfl ?_
    refine WL.gv rfl rfl ?_
    refine WL.ns ?_
    obtain ⟨s15, hs16, hk17⟩ := bind_some hm
    clear hm
    refine W.join (fun s : Bool => s = s15) (fun s => [(37, (tB.is s)), (3, (tapi_Unit.ptr a)), (4, (tapi_Unit.ptr b)), (7, (tO tS k out)), (10, ((tL tapi_Step).is full.1)), (12, ((tL tapi_Step).is full1.1)), (14, ((tL tapi_Destination).is l)), (15, ((tI .i64).is (l.length : Int))), (16, ((tI .i64).is i))]) (fun s => [(7, Own tS 9 k out.length)]) ?_ ?_
    · rintro v hj27
      try dsimp only at hj27
      subst hj27
      have hm := hk17
      clear hk17
      try dsimp only at hm
      change W _ _ _ _ _ _ _ [(37, (tB.is v)), (3, (tapi_Unit.ptr a)), (4, (tapi_Unit.ptr b)), (7, (tO tS k out)), (10, ((tL tapi_Step).is full.1)), (12, ((tL tapi_Step).is full1.1)), (14, ((tL tapi_Destination).is l)), (15, ((tI .i64).is (l.length : Int))), (16, ((tI .i64).is i))] [(7, Own tS 9 k out.length)]
      refine W.cond (.tmp rfl) (fun hc20 => ?_) (fun hc20 => ?_)
      · have hp21 := hc20
        rw [if_pos hp21] at hm
        refine W.region ?_
        refine WL.mv rfl rfl ?_
        refine WL.mv rfl rfl ?_
        obtain ⟨format, hv22, hm⟩ := bind_some hm
        refine WL.op rfl (Op1.call Tryd.call34 (address_Format_spec _ _ _ hv22) ⟨(.tmp rfl), trivial⟩) ?_
        obtain ⟨v1, hv23, hm⟩ := bind_some hm
        refine WL.op rfl (Op1.catC hv23 (.tmp rfl) (.str rfl (by decide))) ?_
        refine WL.mv rfl rfl ?_
        obtain ⟨format1, hv24, hm⟩ := bind_some hm
        refine WL.op rfl (Op1.call Tryd.call34 (address_Format_spec _ _ _ hv24) ⟨(.tmp rfl), trivial⟩) ?_
        obtain ⟨v2, hv25, hm⟩ := bind_some hm
        refine WL.op rfl (Op1.catC hv25 (.tmp rfl) (.tmp rfl)) ?_
        refine WL.op rfl (Op1.buildSlice (n := 1) (ys := [(0, v2)]) (z := ([] : Str)) (xs := [v2]) Tryd.underlying46 el9 ze9 ⟨rfl, (.tmp rfl), trivial⟩ (by simp) (by decide) rfl) ?_
        obtain ⟨out1, hv26, hm⟩ := bind_some hm
        refine WL.opR rfl (OpR.appC (key := 7) hv26 Tryd.underlying46 el9 (.tmp rfl) (.tmp rfl) rfl) (fun k1 => ?_)
        refine WL.gv rfl rfl ?_
        refine WL.nil ?_
        refine WN.block ?_
        refine WN.seq ?_
        refine W.region ?_
        refine WL.op rfl (Op1.addI (.tmp rfl) (.int (inR64.2 (by omega))) (range_inR hi5 hp10 hlen6)) ?_
        refine WL.mv rfl rfl ?_
        refine WL.nil ?_
        exact WN.again es.length (i + 1, pre ++ [e], es, (out1, k1)) (range_lt hn7) ⟨rfl, range_step hxs4, range_idx hi5, hm⟩ ⟨Ent.q rfl, Ent.q rfl, Ent.q rfl, Ent.q rfl, Ent.q rfl, Ent.q rfl, trivial⟩ ⟨rfl, rfl, trivial⟩
      · have hp21 := ne_of_false hc20
        rw [if_neg hp21] at hm
        refine W.skip ?_
        refine WN.block ?_
        refine WN.seq ?_
        refine W.region ?_
        refine WL.op rfl (Op1.addI (.tmp rfl) (.int (inR64.2 (by omega))) (range_inR hi5 hp10 hlen6)) ?_
        refine WL.mv rfl rfl ?_
        refine WL.nil ?_
        exact WN.again es.length (i + 1, pre ++ [e], es, (out, k)) (range_lt hn7) ⟨rfl, range_step hxs4, range_idx hi5, hm⟩ ⟨Ent.q rfl, Ent.q rfl, Ent.q rfl, Ent.q rfl, Ent.q rfl, Ent.q rfl, trivial⟩ ⟨rfl, rfl, trivial⟩
    · have hm := hs16
      clear hs16
      refine W.region ?_
      refine WL.mv rfl rfl ?_
      refine WL.mv rfl rfl ?_
      rcases bcases (full.2) with hb18 | hb18
      · have hp19 := hb18
        rw [if_pos hp19] at hm
        refine WL.run rfl rfl rfl rfl hb18 rfl rfl (Op1.move (.tmp rfl)) ?_
        refine WL.op rfl (Op1.pickT (.tmp rfl) hb18 (.tmp rfl)) ?_
        refine WL.nil ?_
        exact WN.meet full1.2 (Option.some.inj hm) ⟨Ent.q rfl, Ent.q rfl, Ent.q rfl, Ent.q rfl, Ent.q rfl, Ent.q rfl, Ent.q rfl, Ent.q rfl, Ent.q rfl, trivial⟩ ⟨rfl, rfl, trivial⟩
      · have hp19 := ne_of_false hb18
        rw [if_neg hp19] at hm
        refine WL.pass rfl rfl rfl rfl hb18 rfl rfl ?_
        refine WL.op rfl (Op1.pickF (.tmp rfl) hb18 .bool) ?_
        refine WL.nil ?_
        exact WN.meet false (Option.some.inj hm) ⟨Ent.q rfl, Ent.q rfl, Ent.q rfl, Ent.q rfl, Ent.q rfl, Ent.q rfl, Ent.q rfl, Ent.q rfl, Ent.q rfl, trivial⟩ ⟨rfl, rfl, trivial⟩
  · have hrest12 := range_end hxs4 hi5 (of_decide_eq_false hc9)
    subst hrest12
    rw [M.destinations_Names_loop1.eq_1] at hm
    refine W.exit rfl ?_
    have hr28 := Option.some.inj hm
    clear hm
    subst hr28
    have hm := hk3
    try dsimp only at hm
    refine WN.seq ?_
    refine W.sr ?_
    refine WL.mv rfl rfl ?_
    refine WL.gv rfl rfl ?_
    refine WL.ns ?_
    cases hm
    exact W.ret1 () rfl (Opd.own (.tmp rfl)) trivial

theorem r07_below_spec : ∀ (n : Nat) (u : api_Unit) (id : api_Id) (r : (List api_Step) × Bool), M.r07_below n u id = some r → FSpec Tryd.prog 50 [(tapi_Unit.is u), (tapi_Id.is id)] (Asn.tuple2 ((tL tapi_Step).is r.1) (tB.is r.2)) := by
  intro n
  induction n with
  | zero => intro u id r hm; cases hm
  | succ n ih =>
    intro u id r hm
    rw [M.r07_below.eq_2] at hm
    refine FSpec.of Tryd.func50 rfl rfl rfl (fun g0 => ?_)
    refine W.sr ?_
    refine WL.op rfl (Op1.box (.tmp rfl)) ?_
    refine WL.op rfl (Op1.box (.tmp rfl)) ?_
    refine WL.op rfl (Op1.assign (.nil (t := tapi_Step))) ?_
    refine WL.op rfl (Op1.assign .bool) ?_
    refine WL.ns ?_
    refine W.seq ?_
    refine W.sr ?_
    refine WL.op rfl (Op1.fieldAddr Tryd.underlying43 rfl (fun w => ⟨2, Tryd.sizeOf24 w⟩) fapi_Unit_0 (.tmp rfl)) ?_
    refine WL.op rfl (Op1.load ty24 (.tmp rfl)) ?_
    refine WL.op rfl (Op1.load ty24 (.tmp rfl)) ?_
    refine WL.op rfl (Op1.eqSt (D := 2) rfl (by decide) eg24 eq24 (.tmp rfl) (.tmp rfl)) ?_
    refine WL.ns ?_
    refine W.cond (.tmp rfl) (fun hc1 => ?_) (fun hc1 => ?_)
    · have hp2 := of_decide_eq_true hc1
      rw [if_pos hp2] at hm
      refine W.sr ?_
      refine WL.op rfl (Op1.buildSlice (n := 0) (ys := []) (z := zapi_Step) (xs := ([] : List api_Step)) Tryd.underlying63 el83 ze83 trivial (by simp) (by decide) rfl) ?_
      refine WL.gv rfl rfl ?_
      refine WL.op rfl (Op1.assign .bool) ?_
      refine WL.ns ?_
      cases hm
      exact W.ret2 () rfl rfl (.tmp rfl) (.tmp rfl) trivial
    · have hp2 := of_decide_eq_false hc1
      rw [if_neg hp2] at hm
      refine W.skip ?_
      refine WN.seq ?_
      refine W.seq ?_
      refine W.sr ?_
      refine WL.op rfl (Op1.assign (.int (inR64.2 (by omega)))) ?_
      refine WL.ns ?_
      refine W.block ?_
      obtain ⟨s3, hs4, hk5⟩ := bind_some hm
      clear hm
      refine W.loop (fun m (s : Int) => M.r07_below_loop1 u id (M.r07_below n) m s = some s3) (fun s => [(6, ((tI .i64).is s)), (2, (tapi_Unit.ptr u)), (3, (tapi_Id.ptr id))]) (fun s => []) _ (0 : Int) hs4 ⟨Ent.q rfl, Ent.q rfl, Ent.q rfl, trivial⟩ trivial ?_
      rintro n6 i hm
      try dsimp only at hm
      change W _ _ _ _ _ _ _ [(6, ((tI .i64).is i)), (2, (tapi_Unit.ptr u)), (3, (tapi_Id.ptr id))] []
      cases n6 with
      | zero => rw [M.r07_below_loop1.eq_1] at hm; cases hm
      | succ n6 =>
        rw [M.r07_below_loop1.eq_2] at hm
        refine W.seq ?_
        refine W.sr ?_
        refine WL.mv rfl rfl ?_
        refine WL.op rfl (Op1.fieldAddr Tryd.underlying43 rfl (fun w => ⟨0, Tryd.sizeOf41 w⟩) fapi_Unit_5 (.tmp rfl)) ?_
        refine WL.op rfl (Op1.load ty41 (.tmp rfl)) ?_
        refine WL.op rfl (Op1.lenL Tryd.underlying41 (.tmp rfl)) ?_
        refine WL.op rfl (Op1.ltI (.tmp rfl) (.tmp rfl)) ?_
        refine WL.ns ?_
        refine W.cond (.tmp rfl) (fun hc7 => ?_) (fun hc7 => ?_)
        · have hp8 := of_decide_eq_true hc7
          rw [if_pos hp8] at hm
          refine W.skip ?_
          refine WN.seq ?_
          refine W.seq ?_
          refine W.block ?_
          refine W.seq ?_
          obtain ⟨v, hv9, hm⟩ := bind_some hm
          obtain ⟨below, hv10, hm⟩ := bind_some hm
          refine W.weakR (res' := []) trivial ?_
          refine W.drawM [.c ((tL tapi_Unit).ptr u.Kids), .c ((tL tapi_Unit).is u.Kids), .c ((tI .i64).is i), .c (tapi_Unit.ptr v), .c (tapi_Unit.is v), .c (tapi_Id.is id), .c (Asn.tuple2 ((tL tapi_Step).is below.1) (tB.is below.2)), .c (Asn.tuple2 ((tL tapi_Step).is below.1) (tB.is below.2)), .c ((tL tapi_Step).is below.1), .c (tB.is below.2), .c ((tL tapi_Step).is below.1), .c (tB.is below.2)] [([], [2]), ([0], []), ([], [6]), ([1, 2], []), ([3], []), ([], [3]), ([4, 5], []), ([6], []), ([7], []), ([7], []), ([8], []), ([9], [])] [] [[], [], [], [], [], [], [], [], [], [], [], []] (fun m cv => match m with  | _ => []) (fun _ => none) Tryd.mixed rfl rfl rfl rfl rfl ⟨fun _ _ _ _ => rfl, ⟨fun _ _ _ _ => rfl, ⟨fun _ _ _ _ => rfl, ⟨fun _ _ _ _ => rfl, ⟨fun _ _ _ _ => rfl, ⟨fun _ _ _ _ => rfl, ⟨fun _ _ _ _ => rfl, ⟨fun _ _ _ _ => rfl, ⟨fun _ _ _ _ => rfl, ⟨fun _ _ _ _ => rfl, ⟨fun _ _ _ _ => rfl, ⟨fun _ _ _ _ => rfl, trivial⟩⟩⟩⟩⟩⟩⟩⟩⟩⟩⟩⟩ rfl ⟨.inr ⟨fun cv => [], (fun _ _ _ _ => trivial), fun cv => Op1.fieldAddr Tryd.underlying43 rfl (fun w => ⟨0, Tryd.sizeOf41 w⟩) fapi_Unit_5 (.tmp rfl)⟩, ⟨.inr ⟨fun cv => [], (fun _ _ _ _ => trivial), fun cv => Op1.load ty41 (.tmp rfl)⟩, ⟨.inr ⟨fun cv => [], (fun _ _ _ _ => trivial), fun cv => Op1.move (.tmp rfl)⟩, ⟨.inr ⟨fun cv => [], (fun _ _ _ _ => trivial), fun cv => Op1.idx hv9 Tryd.underlying41 Tryd.sizeOf43 (.tmp rfl) (.tmp rfl)⟩, ⟨.inr ⟨fun cv => [], (fun _ _ _ _ => trivial), fun cv => Op1.load ty43 (.tmp rfl)⟩, ⟨.inr ⟨fun cv => [], (fun _ _ _ _ => trivial), fun cv => Op1.load ty24 (.tmp rfl)⟩, ⟨.inr ⟨fun cv => [], (fun _ _ _ _ => trivial), fun cv => Op1.call Tryd.call50 (ih _ _ _ hv10) ⟨(.tmp rfl), (.tmp rfl), trivial⟩⟩, ⟨.inr ⟨fun cv => [], (fun _ _ _ _ => trivial), fun cv => Op1.move (.tmp rfl)⟩, ⟨.inr ⟨fun cv => [], (fun _ _ _ _ => trivial), fun cv => Op1.extract0 (.tmp rfl)⟩, ⟨.inr ⟨fun cv => [], (fun _ _ _ _ => trivial), fun cv => Op1.extract1 (.tmp rfl)⟩, ⟨.inr ⟨fun cv => [], (fun _ _ _ _ => trivial), fun cv => Op1.assign (.tmp rfl)⟩, ⟨.inr ⟨fun cv => [], (fun _ _ _ _ => trivial), fun cv => Op1.assign (.tmp rfl)⟩, trivial⟩⟩⟩⟩⟩⟩⟩⟩⟩⟩⟩⟩ trivial (fun cv => ?_)
          refine WN.seq ?_
          refine W.sr ?_
          refine WL.mv rfl rfl ?_
          refine WL.ns ?_
          refine W.cond (.tmp rfl) (fun hc11 => ?_) (fun hc11 => ?_)
          · have hp12 := hc11
            rw [if_pos hp12] at hm
            refine W.seq ?_
            obtain ⟨v1, hv13, hm⟩ := bind_some hm
            obtain ⟨v2, hv14, hm⟩ := bind_some hm
            obtain ⟨out, hv15, hm⟩ := bind_some hm
            refine W.weakR (res' := []) trivial ?_
            refine W.drawM [.c ((tL tapi_Unit).ptr u.Kids), .c ((tL tapi_Unit).is u.Kids), .c ((tI .i64).is i), .c (tapi_Unit.ptr v1), .c ((tI .i64).ptr v1.Kind), .c ((tI .i64).is v1.Kind), .c ((tL tapi_Unit).ptr u.Kids), .c ((tL tapi_Unit).is u.Kids), .c ((tI .i64).is i), .c (tapi_Unit.ptr v2), .c (tS.ptr v2.Label), .c (tS.is v2.Label), .c (tapi_Step.is (⟨v1.Kind, v2.Label⟩ : api_Step)), .f (fun cv1 => (tO tapi_Step (cv1 0) [(⟨v1.Kind, v2.Label⟩ : api_Step)])), .c ((tL tapi_Step).is below.1), .f (fun cv1 => (tO tapi_Step (cv1 1) out)), .f (fun cv1 => (tO tapi_Step (cv1 1) out)), .c (tB.is true)] [([], [2]), ([0], []), ([], [6]), ([1, 2], []), ([3], []), ([4], []), ([], [2]), ([6], []), ([], [6]), ([7, 8], []), ([9], []), ([10], []), ([5, 11], []), ([12], []), ([], [7]), ([13, 14], []), ([15], []), ([], [])] [13, 15] [[], [], [], [], [], [], [], [], [], [], [], [], [], [true], [], [false, true], [false, true], []] (fun m cv1 => match m with | 0 => [] | 1 => [(45, Own tapi_Step 83 (cv1 0) [(⟨v1.Kind, v2.Label⟩ : api_Step)].length)] | _ => [(45, Own tapi_Step 83 (cv1 1) out.length)]) (fun _ => none) Tryd.mixed rfl rfl rfl rfl rfl ⟨fun _ _ _ _ => rfl, ⟨fun _ _ _ _ => rfl, ⟨fun _ _ _ _ => rfl, ⟨fun _ _ _ _ => rfl, ⟨fun _ _ _ _ => rfl, ⟨fun _ _ _ _ => rfl, ⟨fun _ _ _ _ => rfl, ⟨fun _ _ _ _ => rfl, ⟨fun _ _ _ _ => rfl, ⟨fun _ _ _ _ => rfl, ⟨fun _ _ _ _ => rfl, ⟨fun _ _ _ _ => rfl, ⟨fun _ _ _ _ => rfl, ⟨fun m hm c t => by simp only [DA.at, upd_dep (r := [true]) (j := 0) rfl hm], ⟨fun _ _ _ _ => rfl, ⟨fun m hm c t => by simp only [DA.at, upd_dep (r := [false, true]) (j := 1) rfl hm], ⟨fun m hm c t => by simp only [DA.at, upd_dep (r := [false, true]) (j := 1) rfl hm], ⟨fun _ _ _ _ => rfl, trivial⟩⟩⟩⟩⟩⟩⟩⟩⟩⟩⟩⟩⟩⟩⟩⟩⟩⟩ rfl ⟨.inr ⟨fun cv1 => [], (fun _ _ _ _ => trivial), fun cv1 => Op1.fieldAddr Tryd.underlying43 rfl (fun w => ⟨0, Tryd.sizeOf41 w⟩) fapi_Unit_5 (.tmp rfl)⟩, ⟨.inr ⟨fun cv1 => [], (fun _ _ _ _ => trivial), fun cv1 => Op1.load ty41 (.tmp rfl)⟩, ⟨.inr ⟨fun cv1 => [], (fun _ _ _ _ => trivial), fun cv1 => Op1.move (.tmp rfl)⟩, ⟨.inr ⟨fun cv1 => [], (fun _ _ _ _ => trivial), fun cv1 => Op1.idx hv13 Tryd.underlying41 Tryd.sizeOf43 (.tmp rfl) (.tmp rfl)⟩, ⟨.inr ⟨fun cv1 => [], (fun _ _ _ _ => trivial), fun cv1 => Op1.fieldAddr Tryd.underlying43 rfl (fun w => ⟨0, Tryd.sizeOf3 w⟩) fapi_Unit_1 (.tmp rfl)⟩, ⟨.inr ⟨fun cv1 => [], (fun _ _ _ _ => trivial), fun cv1 => Op1.load ty3 (.tmp rfl)⟩, ⟨.inr ⟨fun cv1 => [], (fun _ _ _ _ => trivial), fun cv1 => Op1.fieldAddr Tryd.underlying43 rfl (fun w => ⟨0, Tryd.sizeOf41 w⟩) fapi_Unit_5 (.tmp rfl)⟩, ⟨.inr ⟨fun cv1 => [], (fun _ _ _ _ => trivial), fun cv1 => Op1.load ty41 (.tmp rfl)⟩, ⟨.inr ⟨fun cv1 => [], (fun _ _ _ _ => trivial), fun cv1 => Op1.move (.tmp rfl)⟩, ⟨.inr ⟨fun cv1 => [], (fun _ _ _ _ => trivial), fun cv1 => Op1.idx hv14 Tryd.underlying41 Tryd.sizeOf43 (.tmp rfl) (.tmp rfl)⟩, ⟨.inr ⟨fun cv1 => [], (fun _ _ _ _ => trivial), fun cv1 => Op1.fieldAddr Tryd.underlying43 rfl (fun w => ⟨0, Tryd.sizeOf9 w⟩) fapi_Unit_2 (.tmp rfl)⟩, ⟨.inr ⟨fun cv1 => [], (fun _ _ _ _ => trivial), fun cv1 => Op1.load ty9 (.tmp rfl)⟩, ⟨.inr ⟨fun cv1 => [], (fun _ _ _ _ => trivial), fun cv1 => Op1.build (s := tapi_Step) (x := (⟨v1.Kind, v2.Label⟩ : api_Step)) zapi_Step_f rfl Tryd.underlying83 (zapi_Step_sz _ Tryd.underlying83) ze83 ⟨_, (tI .i64), v1.Kind, _, _, rfl, Tryd.sizeOf3, (.tmp rfl), sapi_Step_0, ⟨_, tS, v2.Label, _, _, rfl, Tryd.sizeOf9, (.tmp rfl), sapi_Step_1, rfl⟩⟩⟩, ⟨.inl rfl, ⟨.inr ⟨fun cv1 => [], (fun _ _ _ _ => trivial), fun cv1 => Op1.move (.tmp rfl)⟩, ⟨.inl rfl, ⟨.inr ⟨fun cv1 => [], (fun _ _ _ _ => trivial), fun cv1 => Op1.assign (.tmp rfl)⟩, ⟨.inr ⟨fun cv1 => [], (fun _ _ _ _ => trivial), fun cv1 => Op1.assign .bool⟩, trivial⟩⟩⟩⟩⟩⟩⟩⟩⟩⟩⟩⟩⟩⟩⟩⟩⟩⟩ ⟨⟨_, _, _, [], (fun cv1 => [(45, Own tapi_Step 83 (cv1 0) [(⟨v1.Kind, v2.Label⟩ : api_Step)].length)]), rfl, rfl, rfl, rfl, fun _ => rfl, fun _ _ => rfl, fun cv1 => OpR.buildSlice (n := 1) (ys := [(0, (⟨v1.Kind, v2.Label⟩ : api_Step))]) (z := zapi_Step) (xs := [(⟨v1.Kind, v2.Label⟩ : api_Step)]) 45 Tryd.underlying63 el83 ze83 ⟨rfl, (.tmp rfl), trivial⟩ (by simp) (by decide) rfl⟩, ⟨⟨_, _, _, [45], (fun cv1 => [(45, Own tapi_Step 83 (cv1 1) out.length)]), rfl, rfl, rfl, rfl, fun _ => rfl, fun _ _ => rfl, fun cv1 => OpR.appC (key := 45) hv15 Tryd.underlying63 el83 (.tmp rfl) (.tmp rfl) rfl⟩, trivial⟩⟩ (fun cv1 => ?_)
            refine WN.seq ?_
            have hr16 := Option.some.inj hm
            clear hm
            subst hr16
            have hm := hk5
            try dsimp only at hm
            cases hm
            exact W.ret2 () rfl rfl (Opd.own (.tmp rfl)) (.tmp rfl) trivial
          · have hp12 := ne_of_false hc11
            rw [if_neg hp12] at hm
            refine W.skip ?_
            refine WN.block ?_
            refine WN.seq ?_
            refine W.region ?_
            refine WL.mv rfl rfl ?_
            refine WL.lenL (s := 16) (.tmp rfl) fun hl17 => ?_
            refine WL.op rfl (Op1.addI1 (.tmp rfl) (.int (inR64.2 (by omega))) hp8 hl17) ?_
            refine WL.gv rfl rfl ?_
            refine WL.nil ?_
            exact WN.again n6 (i + 1) (Nat.lt_succ_self n6) hm ⟨Ent.q rfl, Ent.q rfl, Ent.q rfl, trivial⟩ trivial
        · have hp8 := of_decide_eq_false hc7
          rw [if_neg hp8] at hm
          refine W.exit rfl ?_
          have hr18 := Option.some.inj hm
          clear hm
          subst hr18
          have hm := hk5
          try dsimp only at hm
          refine WN.seq ?_
          refine W.sr ?_
          refine WL.op rfl (Op1.assign (.nil (t := tapi_Step))) ?_
          refine WL.op rfl (Op1.assign .bool) ?_
          refine WL.ns ?_
          cases hm
          exact W.ret2 () rfl rfl (.tmp rfl) (.tmp rfl) trivial

theorem r07_Whole_spec (n : Nat) (u : api_Unit) (id : api_Id) (r : (List api_Step) × Bool) (hm : M.r07_Whole n u id = some r) : FSpec Tryd.prog 35 [(tapi_Unit.is u), (tapi_Id.is id)] (Asn.tuple2 ((tL tapi_Step).is r.1) (tB.is r.2)) := by
  unfold M.r07_Whole at hm
  refine FSpec.of Tryd.func35 rfl rfl rfl (fun g0 => ?_)
  refine W.sr ?_
  refine WL.op rfl (Op1.box (.tmp rfl)) ?_
  refine WL.op rfl (Op1.box (.tmp rfl)) ?_
  refine WL.op rfl (Op1.assign (.nil (t := tapi_Step))) ?_
  refine WL.op rfl (Op1.assign .bool) ?_
  refine WL.nr ?_
  refine WL.op rfl (Op1.load ty43 (.tmp rfl)) ?_
  refine WL.op rfl (Op1.load ty24 (.tmp rfl)) ?_
  obtain ⟨below, hv1, hm⟩ := bind_some hm
  refine WL.op rfl (Op1.call Tryd.call50 (r07_below_spec _ _ _ _ hv1) ⟨(.tmp rfl), (.tmp rfl), trivial⟩) ?_
  refine WL.mv rfl rfl ?_
  refine WL.op rfl (Op1.extract0 (.tmp rfl)) ?_
  refine WL.op rfl (Op1.extract1 (.tmp rfl)) ?_
  refine WL.gv rfl rfl ?_
  refine WL.gv rfl rfl ?_
  refine WL.ns ?_
  refine W.seq ?_
  refine W.sr ?_
  refine WL.mv rfl rfl ?_
  refine WL.op rfl (Op1.notB (.tmp rfl)) ?_
  refine WL.ns ?_
  refine W.cond (.tmp rfl) (fun hc2 => ?_) (fun hc2 => ?_)
  · have hp3 := not_pos hc2
    rw [if_pos hp3] at hm
    refine W.sr ?_
    refine WL.op rfl (Op1.assign (.nil (t := tapi_Step))) ?_
    refine WL.op rfl (Op1.assign .bool) ?_
    refine WL.ns ?_
    cases hm
    exact W.ret2 () rfl rfl (.tmp rfl) (.tmp rfl) trivial
  · have hp3 := not_neg hc2
    rw [if_neg hp3] at hm
    refine W.skip ?_
    refine WN.seq ?_
    refine W.sr ?_
    refine WL.op rfl (Op1.build (s := tapi_Step) (x := (⟨(0 : Int), ([] : Str)⟩ : api_Step)) zapi_Step_f rfl Tryd.underlying83 (zapi_Step_sz _ Tryd.underlying83) ze83 rfl) ?_
    refine WL.opR rfl (OpR.buildSlice (n := 1) (ys := [(0, (⟨(0 : Int), ([] : Str)⟩ : api_Step))]) (z := zapi_Step) (xs := [(⟨(0 : Int), ([] : Str)⟩ : api_Step)]) 17 Tryd.underlying63 el83 ze83 ⟨rfl, (.tmp rfl), trivial⟩ (by simp) (by decide) rfl) (fun k => ?_)
    refine WL.mv rfl rfl ?_
    obtain ⟨out, hv4, hm⟩ := bind_some hm
    refine WL.opR rfl (OpR.appC (key := 17) hv4 Tryd.underlying63 el83 (.tmp rfl) (.tmp rfl) rfl) (fun k1 => ?_)
    refine WL.gv rfl rfl ?_
    refine WL.op rfl (Op1.assign .bool) ?_
    refine WL.ns ?_
    cases hm
    exact W.ret2 () rfl rfl (Opd.own (.tmp rfl)) (.tmp rfl) trivial

theorem r07_book_spec (s0_ : api_Step) (r : Bool) (hm : M.r07_book s0_ = some r) : FSpec Tryd.prog 53 [(tapi_Step.is s0_)] (tB.is r) := by
  unfold M.r07_book at hm
  refine FSpec.of Tryd.func53 rfl rfl rfl (fun g0 => ?_)
  refine W.sr ?_
  refine WL.op rfl (Op1.box (.tmp rfl)) ?_
  refine WL.op rfl (Op1.assign .bool) ?_
  refine WL.nr ?_
  refine WL.op rfl (Op1.fieldAddr Tryd.underlying83 rfl (fun w => ⟨0, Tryd.sizeOf3 w⟩) fapi_Step_0 (.tmp rfl)) ?_
  refine WL.op rfl (Op1.load ty3 (.tmp rfl)) ?_
  refine WL.op rfl (Op1.eqI (.tmp rfl) (.int (inR64.2 (by omega)))) ?_
  refine WL.mv rfl rfl ?_
  rcases bcases (decide (s0_.Kind = (0 : Int))) with hb1 | hb1
  · have hp2 := of_decide_eq_true hb1
    rw [if_pos hp2] at hm
    refine WL.run rfl rfl rfl rfl hb1 rfl rfl (Op1.fieldAddr Tryd.underlying83 rfl (fun w => ⟨0, Tryd.sizeOf9 w⟩) fapi_Step_1 (.tmp rfl)) ?_
    refine WL.run rfl rfl rfl rfl hb1 rfl rfl (Op1.load ty9 (.tmp rfl)) ?_
    refine WL.run rfl rfl rfl rfl hb1 rfl rfl (Op1.eqS (.tmp rfl) (.str rfl (by decide))) ?_
    refine WL.op rfl (Op1.pickT (.tmp rfl) hb1 (.tmp rfl)) ?_
    refine WL.gv rfl rfl ?_
    refine WL.ns ?_
    cases hm
    exact W.ret1 () rfl (.tmp rfl) trivial
  · have hp2 := of_decide_eq_false hb1
    rw [if_neg hp2] at hm
    refine WL.pass rfl rfl rfl rfl hb1 rfl rfl ?_
    refine WL.pass rfl rfl rfl rfl hb1 rfl rfl ?_
    refine WL.pass rfl rfl rfl rfl hb1 rfl rfl ?_
    refine WL.op rfl (Op1.pickF (.tmp rfl) hb1 .bool) ?_
    refine WL.gv rfl rfl ?_
    refine WL.ns ?_
    cases hm
    exact W.ret1 () rfl (.tmp rfl) trivial

theorem r03_digits_spec (n : Nat) (s0_ : Str) (r : Int) (hm : M.r03_digits n s0_ = some r) : FSpec Tryd.prog 76 [(tS.is s0_)] ((tI .i64).is r) := by
  unfold M.r03_digits at hm
  refine FSpec.of Tryd.func76 rfl rfl rfl (fun g0 => ?_)
  refine W.sr ?_
  refine WL.op rfl (Op1.assign (.int (inR64.2 (by omega)))) ?_
  refine WL.nr ?_
  refine WL.op rfl (Op1.assign (.int (inR64.2 (by omega)))) ?_
  refine WL.ns ?_
  refine W.seq ?_
  refine W.block ?_
  obtain ⟨s1, hs2, hk3⟩ := bind_some hm
  clear hm
  refine W.loop (fun m (s : Int) => M.r03_digits_loop1 s0_ m s = some s1) (fun s => [(3, ((tI .i64).is s)), (0, (tS.is s0_))]) (fun s => []) _ (0 : Int) hs2 ⟨Ent.q rfl, Ent.q rfl, trivial⟩ trivial ?_
  rintro n4 n0_ hm
  try dsimp only at hm
  change W _ _ _ _ _ _ _ [(3, ((tI .i64).is n0_)), (0, (tS.is s0_))] []
  cases n4 with
  | zero => rw [M.r03_digits_loop1.eq_1] at hm; cases hm
  | succ n4 =>
    rw [M.r03_digits_loop1.eq_2] at hm
    refine W.seq ?_
    refine W.sr ?_
    refine WL.mv rfl rfl ?_
    refine WL.mv rfl rfl ?_
    refine WL.op rfl (Op1.lenS Tryd.underlying9 (.tmp rfl)) ?_
    refine WL.op rfl (Op1.ltI (.tmp rfl) (.tmp rfl)) ?_
    refine WL.mv rfl rfl ?_
    rcases bcases (decide (n0_ < (s0_.length : Int))) with hb5 | hb5
    · have hp6 := of_decide_eq_true hb5
      rw [if_pos hp6] at hm
      refine WL.run rfl rfl rfl rfl hb5 rfl rfl (Op1.move (.tmp rfl)) ?_
      refine WL.run rfl rfl rfl rfl hb5 rfl rfl (Op1.move (.tmp rfl)) ?_
      obtain ⟨b, hv7, hm⟩ := bind_some hm
      refine WL.run rfl rfl rfl rfl hb5 rfl rfl (Op1.sidx hv7 Tryd.underlying9 (.tmp rfl) (.tmp rfl)) ?_
      refine WL.run rfl rfl rfl rfl hb5 rfl rfl (Op1.geI (.tmp rfl) (.int (inR8.2 (by omega)))) ?_
      refine WL.op rfl (Op1.pickT (.tmp rfl) hb5 (.tmp rfl)) ?_
      refine WL.mv rfl rfl ?_
      rcases bcases (decide ((48 : Int) ≤ (b.toNat : Int))) with hb8 | hb8
      · have hp9 := of_decide_eq_true hb8
        rw [if_pos hp9] at hm
        refine WL.run rfl rfl rfl rfl hb8 rfl rfl (Op1.move (.tmp rfl)) ?_
        refine WL.run rfl rfl rfl rfl hb8 rfl rfl (Op1.move (.tmp rfl)) ?_
        obtain ⟨b1, hv10, hm⟩ := bind_some hm
        refine WL.run rfl rfl rfl rfl hb8 rfl rfl (Op1.sidx hv10 Tryd.underlying9 (.tmp rfl) (.tmp rfl)) ?_
        refine WL.run rfl rfl rfl rfl hb8 rfl rfl (Op1.leI (.tmp rfl) (.int (inR8.2 (by omega)))) ?_
        refine WL.op rfl (Op1.pickT (.tmp rfl) hb8 (.tmp rfl)) ?_
        refine WL.ns ?_
        refine W.cond (.tmp rfl) (fun hc11 => ?_) (fun hc11 => ?_)
        · have hp12 := of_decide_eq_true hc11
          rw [if_pos hp12] at hm
          refine W.skip ?_
          refine WN.seq ?_
          refine W.block ?_
          refine W.region ?_
          refine WL.mv rfl rfl ?_
          refine WL.lenS (s := 0) (.tmp rfl) fun hl13 => ?_
          refine WL.op rfl (Op1.addI1 (.tmp rfl) (.int (inR64.2 (by omega))) hp6 hl13) ?_
          refine WL.gv rfl rfl ?_
          refine WL.nil ?_
          refine WN.block ?_
          exact WN.again n4 (n0_ + 1) (Nat.lt_succ_self n4) hm ⟨Ent.q rfl, Ent.q rfl, trivial⟩ trivial
        · have hp12 := of_decide_eq_false hc11
          rw [if_neg hp12] at hm
          refine W.exit rfl ?_
          have hr14 := Option.some.inj hm
          clear hm
          subst hr14
          have hm := hk3
          try dsimp only at hm
          refine WN.seq ?_
          refine W.sr ?_
          refine WL.mv rfl rfl ?_
          refine WL.gv rfl rfl ?_
          refine WL.ns ?_
          cases hm
          exact W.ret1 () rfl (.tmp rfl) trivial
      · have hp9 := of_decide_eq_false hb8
        rw [if_neg hp9] at hm
        refine WL.pass rfl rfl rfl rfl hb8 rfl rfl ?_
        refine WL.pass rfl rfl rfl rfl hb8 rfl rfl ?_
        refine WL.pass rfl rfl rfl rfl hb8 rfl rfl ?_
        refine WL.pass rfl rfl rfl rfl hb8 rfl rfl ?_
        refine WL.op rfl (Op1.pickF (.tmp rfl) hb8 .bool) ?_
        refine WL.ns ?_
        refine W.condF (.tmp rfl) ?_
        refine W.exit rfl ?_
        have hr15 := Option.some.inj hm
        clear hm
        subst hr15
        have hm := hk3
        try dsimp only at hm
        refine WN.seq ?_
        refine W.sr ?_
        refine WL.mv rfl rfl ?_
        refine WL.gv rfl rfl ?_
        refine WL.ns ?_
        cases hm
        exact W.ret1 () rfl (.tmp rfl) trivial
    · have hp6 := of_decide_eq_false hb5
      rw [if_neg hp6] at hm
      refine WL.pass rfl rfl rfl rfl hb5 rfl rfl ?_
      refine WL.pass rfl rfl rfl rfl hb5 rfl rfl ?_
      refine WL.pass rfl rfl rfl rfl hb5 rfl rfl ?_
      refine WL.pass rfl rfl rfl rfl hb5 rfl rfl ?_
      refine WL.op rfl (Op1.pickF (.tmp rfl) hb5 .bool) ?_
      refine WL.mv rfl rfl ?_
      refine WL.pass rfl rfl rfl rfl rfl rfl rfl ?_
      refine WL.pass rfl rfl rfl rfl rfl rfl rfl ?_
      refine WL.pass rfl rfl rfl rfl rfl rfl rfl ?_
      refine WL.pass rfl rfl rfl rfl rfl rfl rfl ?_
      refine WL.op rfl (Op1.pickF (.tmp rfl) rfl .bool) ?_
      refine WL.ns ?_
      refine W.condF (.tmp rfl) ?_
      refine W.exit rfl ?_
      have hr16 := Option.some.inj hm
      clear hm
      subst hr16
      have hm := hk3
      try dsimp only at hm
      refine WN.seq ?_
      refine W.sr ?_
      refine WL.mv rfl rfl ?_
      refine WL.gv rfl rfl ?_
      refine WL.ns ?_
      cases hm
      exact W.ret1 () rfl (.tmp rfl) trivial

theorem r03_May_spec (n : Nat) (s0_ : Str) (r : Bool) (hm : M.r03_May n s0_ = some r) : FSpec Tryd.prog 64 [(tS.is s0_)] (tB.is r) := by
  unfold M.r03_May at hm
  refine FSpec.of Tryd.func64 rfl rfl rfl (fun g0 => ?_)
  refine W.sr ?_
  refine WL.op rfl (Op1.assign .bool) ?_
  refine WL.nr ?_
  refine WL.mv rfl rfl ?_
  obtain ⟨digits, hv1, hm⟩ := bind_some hm
  refine WL.op rfl (Op1.call Tryd.call76 (r03_digits_spec _ _ _ hv1) ⟨(.tmp rfl), trivial⟩) ?_
  refine WL.gv rfl rfl ?_
  refine WL.ns ?_
  refine W.seq ?_
  obtain ⟨s2, hs3, hk4⟩ := bind_some hm
  clear hm
  refine W.join (fun s : Bool => s = s2) (fun s => [(24, (tB.is s)), (0, (tS.is s0_)), (3, ((tI .i64).is digits))]) (fun s => []) ?_ ?_
  · rintro v hj31
    try dsimp only at hj31
    subst hj31
    have hm := hk4
    clear hk4
    try dsimp only at hm
    change W _ _ _ _ _ _ _ [(24, (tB.is v)), (0, (tS.is s0_)), (3, ((tI .i64).is digits))] []
    refine W.cond (.tmp rfl) (fun hc13 => ?_) (fun hc13 => ?_)
    · have hp14 := hc13
      rw [if_pos hp14] at hm
      refine W.sr ?_
      refine WL.op rfl (Op1.assign .bool) ?_
      refine WL.ns ?_
      cases hm
      exact W.ret1 () rfl (.tmp rfl) trivial
    · have hp14 := ne_of_false hc13
      rw [if_neg hp14] at hm
      refine W.skip ?_
      refine WN.seq ?_
      refine W.seq ?_
      refine W.sr ?_
      refine WL.mv rfl rfl ?_
      refine WL.gv rfl rfl ?_
      refine WL.ns ?_
      refine W.block ?_
      obtain ⟨s15, hs16, hk17⟩ := bind_some hm
      clear hm
      refine W.loop (fun m (s : Int) => M.r03_May_loop1 s0_ m s = some s15) (fun s => [(4, ((tI .i64).is s)), (0, (tS.is s0_))]) (fun s => []) _ digits hs16 ⟨Ent.q rfl, Ent.q rfl, trivial⟩ trivial ?_
      rintro n18 i hm
      try dsimp only at hm
      change W _ _ _ _ _ _ _ [(4, ((tI .i64).is i)), (0, (tS.is s0_))] []
      cases n18 with
      | zero => rw [M.r03_May_loop1.eq_1] at hm; cases hm
      | succ n18 =>
        rw [M.r03_May_loop1.eq_2] at hm
        refine W.seq ?_
        refine W.sr ?_
        refine WL.mv rfl rfl ?_
        refine WL.mv rfl rfl ?_
        refine WL.op rfl (Op1.lenS Tryd.underlying9 (.tmp rfl)) ?_
        refine WL.op rfl (Op1.ltI (.tmp rfl) (.tmp rfl)) ?_
        refine WL.ns ?_
        refine W.cond (.tmp rfl) (fun hc19 => ?_) (fun hc19 => ?_)
        · have hp20 := of_decide_eq_true hc19
          rw [if_pos hp20] at hm
          refine W.skip ?_
          refine WN.seq ?_
          refine W.seq ?_
          refine W.block ?_
          refine W.sr ?_
          refine WL.mv rfl rfl ?_
          refine WL.mv rfl rfl ?_
          obtain ⟨b1, hv21, hm⟩ := bind_some hm
          refine WL.op rfl (Op1.sidx hv21 Tryd.underlying9 (.tmp rfl) (.tmp rfl)) ?_
          refine WL.op rfl (Op1.ltI (.tmp rfl) (.int (inR8.2 (by omega)))) ?_
          refine WL.mv rfl rfl ?_
          rcases bcases (decide ((b1.toNat : Int) < (65 : Int))) with hb22 | hb22
          · have hp23 := of_decide_eq_true hb22
            rw [if_pos hp23] at hm
            refine WL.pass rfl rfl rfl rfl hb22 rfl rfl ?_
            refine WL.pass rfl rfl rfl rfl hb22 rfl rfl ?_
            refine WL.pass rfl rfl rfl rfl hb22 rfl rfl ?_
            refine WL.pass rfl rfl rfl rfl hb22 rfl rfl ?_
            refine WL.op rfl (Op1.pickT (.tmp rfl) hb22 .bool) ?_
            refine WL.ns ?_
            refine W.condT (.tmp rfl) ?_
            refine W.sr ?_
            refine WL.op rfl (Op1.assign .bool) ?_
            refine WL.ns ?_
            have hr24 := Option.some.inj hm
            clear hm
            subst hr24
            have hm := hk17
            try dsimp only at hm
            cases hm
            exact W.ret1 () rfl (.tmp rfl) trivial
          · have hp23 := of_decide_eq_false hb22
            rw [if_neg hp23] at hm
            refine WL.run rfl rfl rfl rfl hb22 rfl rfl (Op1.move (.tmp rfl)) ?_
            refine WL.run rfl rfl rfl rfl hb22 rfl rfl (Op1.move (.tmp rfl)) ?_
            obtain ⟨b2, hv25, hm⟩ := bind_some hm
            refine WL.run rfl rfl rfl rfl hb22 rfl rfl (Op1.sidx hv25 Tryd.underlying9 (.tmp rfl) (.tmp rfl)) ?_
            refine WL.run rfl rfl rfl rfl hb22 rfl rfl (Op1.gtI (.tmp rfl) (.int (inR8.2 (by omega)))) ?_
            refine WL.op rfl (Op1.pickF (.tmp rfl) hb22 (.tmp rfl)) ?_
            refine WL.ns ?_
            refine W.cond (.tmp rfl) (fun hc26 => ?_) (fun hc26 => ?_)
            · have hp27 := of_decide_eq_true hc26
              rw [if_pos hp27] at hm
              refine W.sr ?_
              refine WL.op rfl (Op1.assign .bool) ?_
              refine WL.ns ?_
              have hr28 := Option.some.inj hm
              clear hm
              subst hr28
              have hm := hk17
              try dsimp only at hm
              cases hm
              exact W.ret1 () rfl (.tmp rfl) trivial
            · have hp27 := of_decide_eq_false hc26
              rw [if_neg hp27] at hm
              refine W.skip ?_
              refine WN.block ?_
              refine WN.seq ?_
              refine W.region ?_
              refine WL.mv rfl rfl ?_
              refine WL.lenS (s := 0) (.tmp rfl) fun hl29 => ?_
              refine WL.op rfl (Op1.addI1 (.tmp rfl) (.int (inR64.2 (by omega))) hp20 hl29) ?_
              refine WL.gv rfl rfl ?_
              refine WL.nil ?_
              exact WN.again n18 (i + 1) (Nat.lt_succ_self n18) hm ⟨Ent.q rfl, Ent.q rfl, trivial⟩ trivial
        · have hp20 := of_decide_eq_false hc19
          rw [if_neg hp20] at hm
          refine W.exit rfl ?_
          have hr30 := Option.some.inj hm
          clear hm
          subst hr30
          have hm := hk17
          try dsimp only at hm
          refine WN.seq ?_
          refine W.sr ?_
          refine WL.op rfl (Op1.assign .bool) ?_
          refine WL.ns ?_
          cases hm
          exact W.ret1 () rfl (.tmp rfl) trivial
  · have hm := hs3
    clear hs3
    refine W.region ?_
    refine WL.mv rfl rfl ?_
    refine WL.op rfl (Op1.ltI (.tmp rfl) (.int (inR64.2 (by omega)))) ?_
    refine WL.mv rfl rfl ?_
    rcases bcases (decide (digits < (1 : Int))) with hb5 | hb5
    · have hp6 := of_decide_eq_true hb5
      rw [if_pos hp6] at hm
      refine WL.pass rfl rfl rfl rfl hb5 rfl rfl ?_
      refine WL.pass rfl rfl rfl rfl hb5 rfl rfl ?_
      refine WL.op rfl (Op1.pickT (.tmp rfl) hb5 .bool) ?_
      refine WL.mv rfl rfl ?_
      refine WL.pass rfl rfl rfl rfl rfl rfl rfl ?_
      refine WL.pass rfl rfl rfl rfl rfl rfl rfl ?_
      refine WL.pass rfl rfl rfl rfl rfl rfl rfl ?_
      refine WL.op rfl (Op1.pickT (.tmp rfl) rfl .bool) ?_
      refine WL.mv rfl rfl ?_
      refine WL.pass rfl rfl rfl rfl rfl rfl rfl ?_
      refine WL.pass rfl rfl rfl rfl rfl rfl rfl ?_
      refine WL.pass rfl rfl rfl rfl rfl rfl rfl ?_
      refine WL.pass rfl rfl rfl rfl rfl rfl rfl ?_
      refine WL.pass rfl rfl rfl rfl rfl rfl rfl ?_
      refine WL.op rfl (Op1.pickT (.tmp rfl) rfl .bool) ?_
      refine WL.nil ?_
      exact WN.meet true (Option.some.inj hm) ⟨Ent.q rfl, Ent.q rfl, Ent.q rfl, trivial⟩ trivial
    · have hp6 := of_decide_eq_false hb5
      rw [if_neg hp6] at hm
      refine WL.run rfl rfl rfl rfl hb5 rfl rfl (Op1.move (.tmp rfl)) ?_
      refine WL.run rfl rfl rfl rfl hb5 rfl rfl (Op1.gtI (.tmp rfl) (.int (inR64.2 (by omega)))) ?_
      refine WL.op rfl (Op1.pickF (.tmp rfl) hb5 (.tmp rfl)) ?_
      refine WL.mv rfl rfl ?_
      rcases bcases (decide ((4 : Int) < digits)) with hb7 | hb7
      · have hp8 := of_decide_eq_true hb7
        rw [if_pos hp8] at hm
        refine WL.pass rfl rfl rfl rfl hb7 rfl rfl ?_
        refine WL.pass rfl rfl rfl rfl hb7 rfl rfl ?_
        refine WL.pass rfl rfl rfl rfl hb7 rfl rfl ?_
        refine WL.op rfl (Op1.pickT (.tmp rfl) hb7 .bool) ?_
        refine WL.mv rfl rfl ?_
        refine WL.pass rfl rfl rfl rfl rfl rfl rfl ?_
        refine WL.pass rfl rfl rfl rfl rfl rfl rfl ?_
        refine WL.pass rfl rfl rfl rfl rfl rfl rfl ?_
        refine WL.pass rfl rfl rfl rfl rfl rfl rfl ?_
        refine WL.pass rfl rfl rfl rfl rfl rfl rfl ?_
        refine WL.op rfl (Op1.pickT (.tmp rfl) rfl .bool) ?_
        refine WL.nil ?_
        exact WN.meet true (Option.some.inj hm) ⟨Ent.q rfl, Ent.q rfl, Ent.q rfl, trivial⟩ trivial
      · have hp8 := of_decide_eq_false hb7
        rw [if_neg hp8] at hm
        refine WL.run rfl rfl rfl rfl hb7 rfl rfl (Op1.move (.tmp rfl)) ?_
        obtain ⟨b, hv9, hm⟩ := bind_some hm
        refine WL.run rfl rfl rfl rfl hb7 rfl rfl (Op1.sidx hv9 Tryd.underlying9 (.tmp rfl) (.int (inR64.2 (by omega)))) ?_
        refine WL.run rfl rfl rfl rfl hb7 rfl rfl (Op1.eqI (.tmp rfl) (.int (inR8.2 (by omega)))) ?_
        refine WL.op rfl (Op1.pickF (.tmp rfl) hb7 (.tmp rfl)) ?_
        refine WL.mv rfl rfl ?_
        rcases bcases (decide ((b.toNat : Int) = (48 : Int))) with hb10 | hb10
        · have hp11 := of_decide_eq_true hb10
          rw [if_pos hp11] at hm
          refine WL.pass rfl rfl rfl rfl hb10 rfl rfl ?_
          refine WL.pass rfl rfl rfl rfl hb10 rfl rfl ?_
          refine WL.pass rfl rfl rfl rfl hb10 rfl rfl ?_
          refine WL.pass rfl rfl rfl rfl hb10 rfl rfl ?_
          refine WL.pass rfl rfl rfl rfl hb10 rfl rfl ?_
          refine WL.op rfl (Op1.pickT (.tmp rfl) hb10 .bool) ?_
          refine WL.nil ?_
          exact WN.meet true (Option.some.inj hm) ⟨Ent.q rfl, Ent.q rfl, Ent.q rfl, trivial⟩ trivial
        · have hp11 := of_decide_eq_false hb10
          rw [if_neg hp11] at hm
          refine WL.run rfl rfl rfl rfl hb10 rfl rfl (Op1.move (.tmp rfl)) ?_
          refine WL.run rfl rfl rfl rfl hb10 rfl rfl (Op1.lenS Tryd.underlying9 (.tmp rfl)) ?_
          refine WL.run rfl rfl rfl rfl hb10 rfl rfl (Op1.move (.tmp rfl)) ?_
          obtain ⟨v1, hv12, hm⟩ := bind_some hm
          refine WL.run rfl rfl rfl rfl hb10 rfl rfl (Op1.subC hv12 (.tmp rfl) (.tmp rfl)) ?_
          refine WL.run rfl rfl rfl rfl hb10 rfl rfl (Op1.gtI (.tmp rfl) (.int (inR64.2 (by omega)))) ?_
          refine WL.op rfl (Op1.pickF (.tmp rfl) hb10 (.tmp rfl)) ?_
          refine WL.nil ?_
          exact WN.meet (decide ((3 : Int) < v1)) (Option.some.inj hm) ⟨Ent.q rfl, Ent.q rfl, Ent.q rfl, trivial⟩ trivial

theorem r07_May_spec (n : Nat) (p : List api_Step) (r : Bool) (hm : M.r07_May n p = some r) : FSpec Tryd.prog 51 [((tL tapi_Step).is p)] (tB.is r) := by
  unfold M.r07_May at hm
  refine FSpec.of Tryd.func51 rfl rfl rfl (fun g0 => ?_)
  refine W.sr ?_
  refine WL.op rfl (Op1.assign .bool) ?_
  refine WL.ns ?_
  refine W.seq ?_
  refine W.sr ?_
  refine WL.mv rfl rfl ?_
  refine WL.op rfl (Op1.lenL Tryd.underlying63 (.tmp rfl)) ?_
  refine WL.op rfl (Op1.gtI (.tmp rfl) (.int (inR64.2 (by omega)))) ?_
  refine WL.ns ?_
  refine W.cond (.tmp rfl) (fun hc1 => ?_) (fun hc1 => ?_)
  · have hp2 := of_decide_eq_true hc1
    rw [if_pos hp2] at hm
    refine W.sr ?_
    refine WL.op rfl (Op1.assign .bool) ?_
    refine WL.ns ?_
    cases hm
    exact W.ret1 () rfl (.tmp rfl) trivial
  · have hp2 := of_decide_eq_false hc1
    rw [if_neg hp2] at hm
    refine W.skip ?_
    refine WN.seq ?_
    refine W.seq ?_
    refine W.sr ?_
    refine WL.op rfl (Op1.assign (.int (inR64.2 (by omega)))) ?_
    refine WL.ns ?_
    refine W.block ?_
    obtain ⟨s3, hs4, hk5⟩ := bind_some hm
    clear hm
    refine W.loop (fun m (s : Int) => M.r07_May_loop1 p m s = some s3) (fun s => [(3, ((tI .i64).is s)), (0, ((tL tapi_Step).is p))]) (fun s => []) _ (0 : Int) hs4 ⟨Ent.q rfl, Ent.q rfl, trivial⟩ trivial ?_
    rintro n6 i hm
    try dsimp only at hm
    change W _ _ _ _ _ _ _ [(3, ((tI .i64).is i)), (0, ((tL tapi_Step).is p))] []
    cases n6 with
    | zero => rw [M.r07_May_loop1.eq_1] at hm; cases hm
    | succ n6 =>
      rw [M.r07_May_loop1.eq_2] at hm
      refine W.seq ?_
      refine W.sr ?_
      refine WL.mv rfl rfl ?_
      refine WL.mv rfl rfl ?_
      refine WL.op rfl (Op1.lenL Tryd.underlying63 (.tmp rfl)) ?_
      refine WL.op rfl (Op1.ltI (.tmp rfl) (.tmp rfl)) ?_
      refine WL.ns ?_
      refine W.cond (.tmp rfl) (fun hc7 => ?_) (fun hc7 => ?_)
      · have hp8 := of_decide_eq_true hc7
        rw [if_pos hp8] at hm
        refine W.skip ?_
        refine WN.seq ?_
        refine W.seq ?_
        refine W.block ?_
        refine W.seq ?_
        obtain ⟨s9, hs10, hk11⟩ := bind_some hm
        clear hm
        refine W.join (fun s : Bool => s = s9) (fun s => [(21, (tB.is s)), (0, ((tL tapi_Step).is p)), (3, ((tI .i64).is i))]) (fun s => []) ?_ ?_
        · rintro v hj33
          try dsimp only at hj33
          subst hj33
          have hm := hk11
          clear hk11
          try dsimp only at hm
          change W _ _ _ _ _ _ _ [(21, (tB.is v)), (0, ((tL tapi_Step).is p)), (3, ((tI .i64).is i))] []
          refine W.cond (.tmp rfl) (fun hc16 => ?_) (fun hc16 => ?_)
          · have hp17 := hc16
            rw [if_pos hp17] at hm
            refine W.exit rfl ?_
            refine WN.seq ?_
            refine W.region ?_
            refine WL.mv rfl rfl ?_
            refine WL.lenL (s := 0) (.tmp rfl) fun hl18 => ?_
            refine WL.op rfl (Op1.addI1 (.tmp rfl) (.int (inR64.2 (by omega))) hp8 hl18) ?_
            refine WL.gv rfl rfl ?_
            refine WL.nil ?_
            exact WN.again n6 (i + 1) (Nat.lt_succ_self n6) hm ⟨Ent.q rfl, Ent.q rfl, trivial⟩ trivial
          · have hp17 := ne_of_false hc16
            rw [if_neg hp17] at hm
            refine W.skip ?_
            refine WN.seq ?_
            refine W.sr ?_
            refine WL.mv rfl rfl ?_
            refine WL.mv rfl rfl ?_
            obtain ⟨v2, hv19, hm⟩ := bind_some hm
            refine WL.op rfl (Op1.idx hv19 Tryd.underlying63 Tryd.sizeOf83 (.tmp rfl) (.tmp rfl)) ?_
            refine WL.op rfl (Op1.fieldAddr Tryd.underlying83 rfl (fun w => ⟨0, Tryd.sizeOf3 w⟩) fapi_Step_0 (.tmp rfl)) ?_
            refine WL.op rfl (Op1.load ty3 (.tmp rfl)) ?_
            refine WL.op rfl (Op1.ltI (.tmp rfl) (.int (inR64.2 (by omega)))) ?_
            refine WL.mv rfl rfl ?_
            rcases bcases (decide (v2.Kind < (1 : Int))) with hb20 | hb20
            · have hp21 := of_decide_eq_true hb20
              rw [if_pos hp21] at hm
              refine WL.pass rfl rfl rfl rfl hb20 rfl rfl ?_
              refine WL.pass rfl rfl rfl rfl hb20 rfl rfl ?_
              refine WL.pass rfl rfl rfl rfl hb20 rfl rfl ?_
              refine WL.pass rfl rfl rfl rfl hb20 rfl rfl ?_
              refine WL.pass rfl rfl rfl rfl hb20 rfl rfl ?_
              refine WL.pass rfl rfl rfl rfl hb20 rfl rfl ?_
              refine WL.op rfl (Op1.pickT (.tmp rfl) hb20 .bool) ?_
              refine WL.mv rfl rfl ?_
              refine WL.pass rfl rfl rfl rfl rfl rfl rfl ?_
              refine WL.pass rfl rfl rfl rfl rfl rfl rfl ?_
              refine WL.pass rfl rfl rfl rfl rfl rfl rfl ?_
              refine WL.pass rfl rfl rfl rfl rfl rfl rfl ?_
              refine WL.pass rfl rfl rfl rfl rfl rfl rfl ?_
              refine WL.pass rfl rfl rfl rfl rfl rfl rfl ?_
              refine WL.pass rfl rfl rfl rfl rfl rfl rfl ?_
              refine WL.op rfl (Op1.pickT (.tmp rfl) rfl .bool) ?_
              refine WL.ns ?_
              refine W.condT (.tmp rfl) ?_
              refine W.sr ?_
              refine WL.op rfl (Op1.assign .bool) ?_
              refine WL.ns ?_
              have hr22 := Option.some.inj hm
              clear hm
              subst hr22
              have hm := hk5
              try dsimp only at hm
              cases hm
              exact W.ret1 () rfl (.tmp rfl) trivial
            · have hp21 := of_decide_eq_false hb20
              rw [if_neg hp21] at hm
              refine WL.run rfl rfl rfl rfl hb20 rfl rfl (Op1.move (.tmp rfl)) ?_
              refine WL.run rfl rfl rfl rfl hb20 rfl rfl (Op1.move (.tmp rfl)) ?_
              obtain ⟨v3, hv23, hm⟩ := bind_some hm
              refine WL.run rfl rfl rfl rfl hb20 rfl rfl (Op1.idx hv23 Tryd.underlying63 Tryd.sizeOf83 (.tmp rfl) (.tmp rfl)) ?_
              refine WL.run rfl rfl rfl rfl hb20 rfl rfl (Op1.fieldAddr Tryd.underlying83 rfl (fun w => ⟨0, Tryd.sizeOf3 w⟩) fapi_Step_0 (.tmp rfl)) ?_
              refine WL.run rfl rfl rfl rfl hb20 rfl rfl (Op1.load ty3 (.tmp rfl)) ?_
              refine WL.run rfl rfl rfl rfl hb20 rfl rfl (Op1.gtI (.tmp rfl) (.int (inR64.2 (by omega)))) ?_
              refine WL.op rfl (Op1.pickF (.tmp rfl) hb20 (.tmp rfl)) ?_
              refine WL.mv rfl rfl ?_
              rcases bcases (decide ((7 : Int) < v3.Kind)) with hb24 | hb24
              · have hp25 := of_decide_eq_true hb24
                rw [if_pos hp25] at hm
                refine WL.pass rfl rfl rfl rfl hb24 rfl rfl ?_
                refine WL.pass rfl rfl rfl rfl hb24 rfl rfl ?_
                refine WL.pass rfl rfl rfl rfl hb24 rfl rfl ?_
                refine WL.pass rfl rfl rfl rfl hb24 rfl rfl ?_
                refine WL.pass rfl rfl rfl rfl hb24 rfl rfl ?_
                refine WL.pass rfl rfl rfl rfl hb24 rfl rfl ?_
                refine WL.pass rfl rfl rfl rfl hb24 rfl rfl ?_
                refine WL.op rfl (Op1.pickT (.tmp rfl) hb24 .bool) ?_
                refine WL.ns ?_
                refine W.condT (.tmp rfl) ?_
                refine W.sr ?_
                refine WL.op rfl (Op1.assign .bool) ?_
                refine WL.ns ?_
                have hr26 := Option.some.inj hm
                clear hm
                subst hr26
                have hm := hk5
                try dsimp only at hm
                cases hm
                exact W.ret1 () rfl (.tmp rfl) trivial
              · have hp25 := of_decide_eq_false hb24
                rw [if_neg hp25] at hm
                refine WL.run rfl rfl rfl rfl hb24 rfl rfl (Op1.move (.tmp rfl)) ?_
                refine WL.run rfl rfl rfl rfl hb24 rfl rfl (Op1.move (.tmp rfl)) ?_
                obtain ⟨v4, hv27, hm⟩ := bind_some hm
                refine WL.run rfl rfl rfl rfl hb24 rfl rfl (Op1.idx hv27 Tryd.underlying63 Tryd.sizeOf83 (.tmp rfl) (.tmp rfl)) ?_
                refine WL.run rfl rfl rfl rfl hb24 rfl rfl (Op1.fieldAddr Tryd.underlying83 rfl (fun w => ⟨0, Tryd.sizeOf9 w⟩) fapi_Step_1 (.tmp rfl)) ?_
                refine WL.run rfl rfl rfl rfl hb24 rfl rfl (Op1.load ty9 (.tmp rfl)) ?_
                obtain ⟨may, hv28, hm⟩ := bind_some hm
                refine WL.run rfl rfl rfl rfl hb24 rfl rfl (Op1.call Tryd.call64 (r03_May_spec _ _ _ hv28) ⟨(.tmp rfl), trivial⟩) ?_
                refine WL.run rfl rfl rfl rfl hb24 rfl rfl (Op1.notB (.tmp rfl)) ?_
                refine WL.op rfl (Op1.pickF (.tmp rfl) hb24 (.tmp rfl)) ?_
                refine WL.ns ?_
                refine W.cond (.tmp rfl) (fun hc29 => ?_) (fun hc29 => ?_)
                · have hp30 := not_pos hc29
                  rw [if_pos hp30] at hm
                  refine W.sr ?_
                  refine WL.op rfl (Op1.assign .bool) ?_
                  refine WL.ns ?_
                  have hr31 := Option.some.inj hm
                  clear hm
                  subst hr31
                  have hm := hk5
                  try dsimp only at hm
                  cases hm
                  exact W.ret1 () rfl (.tmp rfl) trivial
                · have hp30 := not_neg hc29
                  rw [if_neg hp30] at hm
                  refine W.skip ?_
                  refine WN.block ?_
                  refine WN.seq ?_
                  refine W.region ?_
                  refine WL.mv rfl rfl ?_
                  refine WL.lenL (s := 0) (.tmp rfl) fun hl32 => ?_
                  refine WL.op rfl (Op1.addI1 (.tmp rfl) (.int (inR64.2 (by omega))) hp8 hl32) ?_
                  refine WL.gv rfl rfl ?_
                  refine WL.nil ?_
                  exact WN.again n6 (i + 1) (Nat.lt_succ_self n6) hm ⟨Ent.q rfl, Ent.q rfl, trivial⟩ trivial
        · have hm := hs10
          clear hs10
          refine W.region ?_
          refine WL.mv rfl rfl ?_
          refine WL.op rfl (Op1.eqI (.tmp rfl) (.int (inR64.2 (by omega)))) ?_
          refine WL.mv rfl rfl ?_
          rcases bcases (decide (i = (0 : Int))) with hb12 | hb12
          · have hp13 := of_decide_eq_true hb12
            rw [if_pos hp13] at hm
            refine WL.run rfl rfl rfl rfl hb12 rfl rfl (Op1.move (.tmp rfl)) ?_
            refine WL.run rfl rfl rfl rfl hb12 rfl rfl (Op1.move (.tmp rfl)) ?_
            obtain ⟨v1, hv14, hm⟩ := bind_some hm
            refine WL.run rfl rfl rfl rfl hb12 rfl rfl (Op1.idx hv14 Tryd.underlying63 Tryd.sizeOf83 (.tmp rfl) (.tmp rfl)) ?_
            refine WL.run rfl rfl rfl rfl hb12 rfl rfl (Op1.load ty83 (.tmp rfl)) ?_
            obtain ⟨book, hv15, hm⟩ := bind_some hm
            refine WL.run rfl rfl rfl rfl hb12 rfl rfl (Op1.call Tryd.call53 (r07_book_spec _ _ hv15) ⟨(.tmp rfl), trivial⟩) ?_
            refine WL.op rfl (Op1.pickT (.tmp rfl) hb12 (.tmp rfl)) ?_
            refine WL.nil ?_
            exact WN.meet book (Option.some.inj hm) ⟨Ent.q rfl, Ent.q rfl, Ent.q rfl, trivial⟩ trivial
          · have hp13 := of_decide_eq_false hb12
            rw [if_neg hp13] at hm
            refine WL.pass rfl rfl rfl rfl hb12 rfl rfl ?_
            refine WL.pass rfl rfl rfl rfl hb12 rfl rfl ?_
            refine WL.pass rfl rfl rfl rfl hb12 rfl rfl ?_
            refine WL.pass rfl rfl rfl rfl hb12 rfl rfl ?_
            refine WL.pass rfl rfl rfl rfl hb12 rfl rfl ?_
            refine WL.op rfl (Op1.pickF (.tmp rfl) hb12 .bool) ?_
            refine WL.nil ?_
            exact WN.meet false (Option.some.inj hm) ⟨Ent.q rfl, Ent.q rfl, Ent.q rfl, trivial⟩ trivial
      · have hp8 := of_decide_eq_false hc7
        rw [if_neg hp8] at hm
        refine W.exit rfl ?_
        have hr34 := Option.some.inj hm
        clear hm
        subst hr34
        have hm := hk5
        try dsimp only at hm
        refine WN.seq ?_
        refine W.sr ?_
        refine WL.op rfl (Op1.assign .bool) ?_
        refine WL.ns ?_
        cases hm
        exact W.ret1 () rfl (.tmp rfl) trivial

theorem r07_Names_spec  (r : (List Str)) (hm : M.r07_Names  = some r) : FSpec Tryd.prog 52 [] ((tL tS).is r) := by
  unfold M.r07_Names at hm
  refine FSpec.of Tryd.func52 rfl rfl rfl (fun g0 => ?_)
  refine W.sr ?_
  refine WL.op rfl (Op1.assign (.nil (t := tS))) ?_
  refine WL.nr ?_
  refine WL.op rfl (Op1.buildSlice (n := 8) (ys := [(0, ([98, 111, 111, 107] : Str)), (1, ([112, 97, 114, 116] : Str)), (2, ([115, 101, 99, 116, 105, 111, 110] : Str)), (3, ([112, 97, 114, 97, 103, 114, 97, 112, 104] : Str)), (4, ([116, 97, 98, 108, 101] : Str)), (5, ([114, 111, 119] : Str)), (6, ([99, 101, 108, 108] : Str)), (7, ([110, 111, 116, 101] : Str))]) (z := ([] : Str)) (xs := [([98, 111, 111, 107] : Str), ([112, 97, 114, 116] : Str), ([115, 101, 99, 116, 105, 111, 110] : Str), ([112, 97, 114, 97, 103, 114, 97, 112, 104] : Str), ([116, 97, 98, 108, 101] : Str), ([114, 111, 119] : Str), ([99, 101, 108, 108] : Str), ([110, 111, 116, 101] : Str)]) Tryd.underlying46 el9 ze9 ⟨rfl, (.str rfl (by decide)), rfl, (.str rfl (by decide)), rfl, (.str rfl (by decide)), rfl, (.str rfl (by decide)), rfl, (.str rfl (by decide)), rfl, (.str rfl (by decide)), rfl, (.str rfl (by decide)), rfl, (.str rfl (by decide)), trivial⟩ (by simp) (by decide) rfl) ?_
  refine WL.gv rfl rfl ?_
  refine WL.ns ?_
  cases hm
  exact W.ret1 () rfl (.tmp rfl) trivial

theorem r07_Text_spec (n : Nat) (p : List api_Step) (r : Str) (hm : M.r07_Text n p = some r) : FSpec Tryd.prog 36 [((tL tapi_Step).is p)] (tS.is r) := by
  unfold M.r07_Text at hm
  refine FSpec.of Tryd.func36 rfl rfl rfl (fun g0 => ?_)
  refine W.sr ?_
  refine WL.op rfl (Op1.assign (.str rfl (by decide))) ?_
  refine WL.ns ?_
  refine W.seq ?_
  refine W.sr ?_
  refine WL.mv rfl rfl ?_
  obtain ⟨may, hv1, hm⟩ := bind_some hm
  refine WL.op rfl (Op1.call Tryd.call51 (r07_May_spec _ _ _ hv1) ⟨(.tmp rfl), trivial⟩) ?_
  refine WL.op rfl (Op1.notB (.tmp rfl)) ?_
  refine WL.ns ?_
  refine W.cond (.tmp rfl) (fun hc2 => ?_) (fun hc2 => ?_)
  · have hp3 := not_pos hc2
    rw [if_pos hp3] at hm
    refine W.sr ?_
    refine WL.op rfl (Op1.assign (.str rfl (by decide))) ?_
    refine WL.ns ?_
    cases hm
    exact W.ret1 () rfl (.tmp rfl) trivial
  · have hp3 := not_neg hc2
    rw [if_neg hp3] at hm
    refine W.skip ?_
    refine WN.seq ?_
    refine W.sr ?_
    refine WL.op rfl (Op1.assign (.str rfl (by decide))) ?_
    refine WL.ns ?_
    refine W.seq ?_
    refine W.sr ?_
    refine WL.op rfl (Op1.assign (.int (inR64.2 (by omega)))) ?_
    refine WL.ns ?_
    refine W.block ?_
    obtain ⟨s4, hs5, hk6⟩ := bind_some hm
    clear hm
    refine W.loop (fun m (s : Str × Int) => M.r07_Text_loop1 p m s.1 s.2 = some s4) (fun s => [(3, (tS.is s.1)), (4, ((tI .i64).is s.2)), (0, ((tL tapi_Step).is p))]) (fun s => []) _ (([] : Str), (0 : Int)) hs5 ⟨Ent.q rfl, Ent.q rfl, Ent.q rfl, trivial⟩ trivial ?_
    rintro n7 ⟨s0_, i⟩ hm
    try dsimp only at hm
    change W _ _ _ _ _ _ _ [(3, (tS.is s0_)), (4, ((tI .i64).is i)), (0, ((tL tapi_Step).is p))] []
    cases n7 with
    | zero => rw [M.r07_Text_loop1.eq_1] at hm; cases hm
    | succ n7 =>
      rw [M.r07_Text_loop1.eq_2] at hm
      refine W.seq ?_
      refine W.sr ?_
      refine WL.mv rfl rfl ?_
      refine WL.mv rfl rfl ?_
      refine WL.op rfl (Op1.lenL Tryd.underlying63 (.tmp rfl)) ?_
      refine WL.op rfl (Op1.ltI (.tmp rfl) (.tmp rfl)) ?_
      refine WL.ns ?_
      refine W.cond (.tmp rfl) (fun hc8 => ?_) (fun hc8 => ?_)
      · have hp9 := of_decide_eq_true hc8
        rw [if_pos hp9] at hm
        refine W.skip ?_
        refine WN.seq ?_
        refine W.seq ?_
        refine W.block ?_
        obtain ⟨s10, hs11, hk12⟩ := bind_some hm
        clear hm
        refine W.join (fun s : Str => s = s10) (fun s => [(3, (tS.is s)), (0, ((tL tapi_Step).is p)), (4, ((tI .i64).is i))]) (fun s => []) ?_ ?_
        · rintro s0_1 hj29
          try dsimp only at hj29
          subst hj29
          have hm := hk12
          clear hk12
          try dsimp only at hm
          change W _ _ _ _ _ _ _ [(3, (tS.is s0_1)), (0, ((tL tapi_Step).is p)), (4, ((tI .i64).is i))] []
          refine W.seq ?_
          obtain ⟨names, hv16, hm⟩ := bind_some hm
          obtain ⟨v1, hv17, hm⟩ := bind_some hm
          obtain ⟨v2, hv18, hm⟩ := bind_some hm
          obtain ⟨v3, hv19, hm⟩ := bind_some hm
          refine W.draw [.c (tS.is s0_1), .c ((tL tS).is names), .c ((tL tapi_Step).is p), .c ((tI .i64).is i), .c (tapi_Step.ptr v1), .c ((tI .i64).ptr v1.Kind), .c ((tI .i64).is v1.Kind), .c (tS.ptr v2), .c (tS.is v2), .c (tS.is v3), .c (tS.is v3)] [([], [3]), ([], []), ([], [0]), ([], [4]), ([2, 3], []), ([4], []), ([5], []), ([1, 6], []), ([7], []), ([0, 8], []), ([9], [])] Tryd.mixed rfl rfl rfl rfl ⟨.inr (Op1.move (.tmp rfl)), .inr (Op1.call Tryd.call52 (r07_Names_spec _ hv16) trivial), .inr (Op1.move (.tmp rfl)), .inr (Op1.move (.tmp rfl)), .inr (Op1.idx hv17 Tryd.underlying63 Tryd.sizeOf83 (.tmp rfl) (.tmp rfl)), .inr (Op1.fieldAddr Tryd.underlying83 rfl (fun w => ⟨0, Tryd.sizeOf3 w⟩) fapi_Step_0 (.tmp rfl)), .inr (Op1.load ty3 (.tmp rfl)), .inr (Op1.idx hv18 Tryd.underlying46 Tryd.sizeOf9 (.tmp rfl) (.tmp rfl)), .inr (Op1.load ty9 (.tmp rfl)), .inr (Op1.catC hv19 (.tmp rfl) (.tmp rfl)), .inr (Op1.assign (.tmp rfl)), trivial⟩ ?_
          refine WN.seq ?_
          refine W.sr ?_
          refine WL.mv rfl rfl ?_
          refine WL.mv rfl rfl ?_
          obtain ⟨v4, hv20, hm⟩ := bind_some hm
          refine WL.op rfl (Op1.idx hv20 Tryd.underlying63 Tryd.sizeOf83 (.tmp rfl) (.tmp rfl)) ?_
          refine WL.op rfl (Op1.load ty83 (.tmp rfl)) ?_
          obtain ⟨book, hv21, hm⟩ := bind_some hm
          refine WL.op rfl (Op1.call Tryd.call53 (r07_book_spec _ _ hv21) ⟨(.tmp rfl), trivial⟩) ?_
          refine WL.op rfl (Op1.notB (.tmp rfl)) ?_
          refine WL.ns ?_
          refine W.cond (.tmp rfl) (fun hc22 => ?_) (fun hc22 => ?_)
          · have hp23 := not_pos hc22
            rw [if_pos hp23] at hm
            refine W.region ?_
            refine WL.mv rfl rfl ?_
            obtain ⟨v5, hv24, hm⟩ := bind_some hm
            refine WL.op rfl (Op1.catC hv24 (.tmp rfl) (.str rfl (by decide))) ?_
            refine WL.mv rfl rfl ?_
            refine WL.mv rfl rfl ?_
            obtain ⟨v6, hv25, hm⟩ := bind_some hm
            refine WL.op rfl (Op1.idx hv25 Tryd.underlying63 Tryd.sizeOf83 (.tmp rfl) (.tmp rfl)) ?_
            refine WL.op rfl (Op1.fieldAddr Tryd.underlying83 rfl (fun w => ⟨0, Tryd.sizeOf9 w⟩) fapi_Step_1 (.tmp rfl)) ?_
            refine WL.op rfl (Op1.load ty9 (.tmp rfl)) ?_
            obtain ⟨v7, hv26, hm⟩ := bind_some hm
            refine WL.op rfl (Op1.catC hv26 (.tmp rfl) (.tmp rfl)) ?_
            refine WL.gv rfl rfl ?_
            refine WL.nil ?_
            refine WN.block ?_
            refine WN.seq ?_
            refine W.region ?_
            refine WL.mv rfl rfl ?_
            refine WL.lenL (s := 0) (.tmp rfl) fun hl27 => ?_
            refine WL.op rfl (Op1.addI1 (.tmp rfl) (.int (inR64.2 (by omega))) hp9 hl27) ?_
            refine WL.gv rfl rfl ?_
            refine WL.nil ?_
            exact WN.again n7 (v7, i + 1) (Nat.lt_succ_self n7) hm ⟨Ent.q rfl, Ent.q rfl, Ent.q rfl, trivial⟩ trivial
          · have hp23 := not_neg hc22
            rw [if_neg hp23] at hm
            refine W.skip ?_
            refine WN.block ?_
            refine WN.seq ?_
            refine W.region ?_
            refine WL.mv rfl rfl ?_
            refine WL.lenL (s := 0) (.tmp rfl) fun hl28 => ?_
            refine WL.op rfl (Op1.addI1 (.tmp rfl) (.int (inR64.2 (by omega))) hp9 hl28) ?_
            refine WL.gv rfl rfl ?_
            refine WL.nil ?_
            exact WN.again n7 (v3, i + 1) (Nat.lt_succ_self n7) hm ⟨Ent.q rfl, Ent.q rfl, Ent.q rfl, trivial⟩ trivial
        · have hm := hs11
          clear hs11
          refine W.sr ?_
          refine WL.mv rfl rfl ?_
          refine WL.op rfl (Op1.gtI (.tmp rfl) (.int (inR64.2 (by omega)))) ?_
          refine WL.ns ?_
          refine W.cond (.tmp rfl) (fun hc13 => ?_) (fun hc13 => ?_)
          · have hp14 := of_decide_eq_true hc13
            rw [if_pos hp14] at hm
            refine W.region ?_
            refine WL.mv rfl rfl ?_
            obtain ⟨v, hv15, hm⟩ := bind_some hm
            refine WL.op rfl (Op1.catC hv15 (.tmp rfl) (.str rfl (by decide))) ?_
            refine WL.gv rfl rfl ?_
            refine WL.nil ?_
            exact WN.meet v (Option.some.inj hm) ⟨Ent.q rfl, Ent.q rfl, Ent.q rfl, trivial⟩ trivial
          · have hp14 := of_decide_eq_false hc13
            rw [if_neg hp14] at hm
            refine W.skip ?_
            exact WN.meet s0_ (Option.some.inj hm) ⟨Ent.q rfl, Ent.q rfl, Ent.q rfl, trivial⟩ trivial
      · have hp9 := of_decide_eq_false hc8
        rw [if_neg hp9] at hm
        refine W.exit rfl ?_
        have hr30 := Option.some.inj hm
        clear hm
        subst hr30
        have hm := hk6
        try dsimp only at hm
        refine WN.seq ?_
        refine W.sr ?_
        refine WL.mv rfl rfl ?_
        refine WL.gv rfl rfl ?_
        refine WL.ns ?_
        cases hm
        exact W.ret1 () rfl (.tmp rfl) trivial

theorem r47_Names_spec (n : Nat) (a : api_Unit) (b : api_Unit) (l : List api_Destination) (r : (List Str)) (hm : M.r47_Names n a b l = some r) : FSpec Tryd.prog 24 [(tapi_Unit.is a), (tapi_Unit.is b), ((tL tapi_Destination).is l)] ((tL tS).is r) := by
  unfold M.r47_Names at hm
  refine FSpec.of Tryd.func24 rfl rfl rfl (fun g0 => ?_)
  refine W.sr ?_
  refine WL.op rfl (Op1.box (.tmp rfl)) ?_
  refine WL.op rfl (Op1.box (.tmp rfl)) ?_
  refine WL.op rfl (Op1.assign (.nil (t := tS))) ?_
  refine WL.nr ?_
  refine WL.opR rfl (OpR.buildSlice (n := 0) (ys := []) (z := ([] : Str)) (xs := ([] : List Str)) 13 Tryd.underlying46 el9 ze9 trivial (by simp) (by decide) rfl) (fun k => ?_)
  refine WL.gv rfl rfl ?_
  refine WL.ns ?_
  refine W.seq ?_
  refine W.sr ?_
  refine WL.op rfl (Op1.assign (.int (inR64.2 (by omega)))) ?_
  refine WL.ns ?_
  refine W.block ?_
  obtain ⟨s1, hs2, hk3⟩ := bind_some hm
  clear hm
  refine W.loop (fun m (s : ((List Str) × Int) × Tok) => M.r47_Names_loop1 a b l m s.1.1 s.1.2 = some s1) (fun s => [(7, (tO tS s.2 s.1.1)), (8, ((tI .i64).is s.1.2)), (2, ((tL tapi_Destination).is l)), (3, (tapi_Unit.ptr a)), (4, (tapi_Unit.ptr b))]) (fun s => [(13, Own tS 9 s.2 s.1.1.length)]) _ ((([] : List Str), (0 : Int)), k) hs2 ⟨Ent.q rfl, Ent.q rfl, Ent.q rfl, Ent.q rfl, Ent.q rfl, trivial⟩ ⟨rfl, rfl, trivial⟩ ?_
  rintro n4 ⟨⟨out, i⟩, k1⟩ hm
  try dsimp only at hm
  change W _ _ _ _ _ _ _ [(7, (tO tS k1 out)), (8, ((tI .i64).is i)), (2, ((tL tapi_Destination).is l)), (3, (tapi_Unit.ptr a)), (4, (tapi_Unit.ptr b))] [(13, Own tS 9 k1 out.length)]
  cases n4 with
  | zero => rw [M.r47_Names_loop1.eq_1] at hm; cases hm
  | succ n4 =>
    rw [M.r47_Names_loop1.eq_2] at hm
    refine W.seq ?_
    refine W.sr ?_
    refine WL.mv rfl rfl ?_
    refine WL.mv rfl rfl ?_
    refine WL.op rfl (Op1.lenL Tryd.underlying22 (.tmp rfl)) ?_
    refine WL.op rfl (Op1.ltI (.tmp rfl) (.tmp rfl)) ?_
    refine WL.ns ?_
    refine W.cond (.tmp rfl) (fun hc5 => ?_) (fun hc5 => ?_)
    · have hp6 := of_decide_eq_true hc5
      rw [if_pos hp6] at hm
      refine W.skip ?_
      refine WN.seq ?_
      refine W.seq ?_
      refine W.block ?_
      refine W.seq ?_
      obtain ⟨v, hv7, hm⟩ := bind_some hm
      obtain ⟨whole, hv8, hm⟩ := bind_some hm
      refine W.weakR (res' := [(13, Own tS 9 k1 out.length)]) ⟨rfl, rfl, trivial⟩ ?_
      refine W.drawM [.c (tapi_Unit.is a), .c ((tL tapi_Destination).is l), .c ((tI .i64).is i), .c (tapi_Destination.ptr v), .c (tapi_Id.ptr v.From), .c (tapi_Id.is v.From), .c (Asn.tuple2 ((tL tapi_Step).is whole.1) (tB.is whole.2)), .c (Asn.tuple2 ((tL tapi_Step).is whole.1) (tB.is whole.2)), .c ((tL tapi_Step).is whole.1), .c (tB.is whole.2), .c ((tL tapi_Step).is whole.1), .c (tB.is whole.2)] [([], [3]), ([], [2]), ([], [8]), ([1, 2], []), ([3], []), ([4], []), ([0, 5], []), ([6], []), ([7], []), ([7], []), ([8], []), ([9], [])] [] [[], [], [], [], [], [], [], [], [], [], [], []] (fun m cv => match m with  | _ => [(13, Own tS 9 k1 out.length)]) (fun _ => none) Tryd.mixed rfl rfl rfl rfl rfl ⟨fun _ _ _ _ => rfl, ⟨fun _ _ _ _ => rfl, ⟨fun _ _ _ _ => rfl, ⟨fun _ _ _ _ => rfl, ⟨fun _ _ _ _ => rfl, ⟨fun _ _ _ _ => rfl, ⟨fun _ _ _ _ => rfl, ⟨fun _ _ _ _ => rfl, ⟨fun _ _ _ _ => rfl, ⟨fun _ _ _ _ => rfl, ⟨fun _ _ _ _ => rfl, ⟨fun _ _ _ _ => rfl, trivial⟩⟩⟩⟩⟩⟩⟩⟩⟩⟩⟩⟩ rfl ⟨.inr ⟨fun cv => [], (fun _ _ _ _ => trivial), fun cv => Op1.load ty43 (.tmp rfl)⟩, ⟨.inr ⟨fun cv => [], (fun _ _ _ _ => trivial), fun cv => Op1.move (.tmp rfl)⟩, ⟨.inr ⟨fun cv => [], (fun _ _ _ _ => trivial), fun cv => Op1.move (.tmp rfl)⟩, ⟨.inr ⟨fun cv => [], (fun _ _ _ _ => trivial), fun cv => Op1.idx hv7 Tryd.underlying22 Tryd.sizeOf36 (.tmp rfl) (.tmp rfl)⟩, ⟨.inr ⟨fun cv => [], (fun _ _ _ _ => trivial), fun cv => Op1.fieldAddr Tryd.underlying36 rfl (fun w => ⟨2, Tryd.sizeOf24 w⟩) fapi_Destination_0 (.tmp rfl)⟩, ⟨.inr ⟨fun cv => [], (fun _ _ _ _ => trivial), fun cv => Op1.load ty24 (.tmp rfl)⟩, ⟨.inr ⟨fun cv => [], (fun _ _ _ _ => trivial), fun cv => Op1.call Tryd.call35 (r07_Whole_spec _ _ _ _ hv8) ⟨(.tmp rfl), (.tmp rfl), trivial⟩⟩, ⟨.inr ⟨fun cv => [], (fun _ _ _ _ => trivial), fun cv => Op1.move (.tmp rfl)⟩, ⟨.inr ⟨fun cv => [], (fun _ _ _ _ => trivial), fun cv => Op1.extract0 (.tmp rfl)⟩, ⟨.inr ⟨fun cv => [], (fun _ _ _ _ => trivial), fun cv => Op1.extract1 (.tmp rfl)⟩, ⟨.inr ⟨fun cv => [], (fun _ _ _ _ => trivial), fun cv => Op1.assign (.tmp rfl)⟩, ⟨.inr ⟨fun cv => [], (fun _ _ _ _ => trivial), fun cv => Op1.assign (.tmp rfl)⟩, trivial⟩⟩⟩⟩⟩⟩⟩⟩⟩⟩⟩⟩ trivial (fun cv => ?_)
      refine WN.seq ?_
      refine W.seq ?_
      obtain ⟨v1, hv9, hm⟩ := bind_some hm
      obtain ⟨whole1, hv10, hm⟩ := bind_some hm
      refine W.weakR (res' := [(13, Own tS 9 k1 out.length)]) ⟨rfl, rfl, trivial⟩ ?_
      refine W.drawM [.c (tapi_Unit.is b), .c ((tL tapi_Destination).is l), .c ((tI .i64).is i), .c (tapi_Destination.ptr v1), .c (tapi_Id.ptr v1.To), .c (tapi_Id.is v1.To), .c (Asn.tuple2 ((tL tapi_Step).is whole1.1) (tB.is whole1.2)), .c (Asn.tuple2 ((tL tapi_Step).is whole1.1) (tB.is whole1.2)), .c ((tL tapi_Step).is whole1.1), .c (tB.is whole1.2), .c ((tL tapi_Step).is whole1.1), .c (tB.is whole1.2)] [([], [4]), ([], [2]), ([], [8]), ([1, 2], []), ([3], []), ([4], []), ([0, 5], []), ([6], []), ([7], []), ([7], []), ([8], []), ([9], [])] [] [[], [], [], [], [], [], [], [], [], [], [], []] (fun m cv1 => match m with  | _ => [(13, Own tS 9 k1 out.length)]) (fun _ => none) Tryd.mixed rfl rfl rfl rfl rfl ⟨fun _ _ _ _ => rfl, ⟨fun _ _ _ _ => rfl, ⟨fun _ _ _ _ => rfl, ⟨fun _ _ _ _ => rfl, ⟨fun _ _ _ _ => rfl, ⟨fun _ _ _ _ => rfl, ⟨fun _ _ _ _ => rfl, ⟨fun _ _ _ _ => rfl, ⟨fun _ _ _ _ => rfl, ⟨fun _ _ _ _ => rfl, ⟨fun _ _ _ _ => rfl, ⟨fun _ _ _ _ => rfl, trivial⟩⟩⟩⟩⟩⟩⟩⟩⟩⟩⟩⟩ rfl ⟨.inr ⟨fun cv1 => [], (fun _ _ _ _ => trivial), fun cv1 => Op1.load ty43 (.tmp rfl)⟩, ⟨.inr ⟨fun cv1 => [], (fun _ _ _ _ => trivial), fun cv1 => Op1.move (.tmp rfl)⟩, ⟨.inr ⟨fun cv1 => [], (fun _ _ _ _ => trivial), fun cv1 => Op1.move (.tmp rfl)⟩, ⟨.inr ⟨fun cv1 => [], (fun _ _ _ _ => trivial), fun cv1 => Op1.idx hv9 Tryd.underlying22 Tryd.sizeOf36 (.tmp rfl) (.tmp rfl)⟩, ⟨.inr ⟨fun cv1 => [], (fun _ _ _ _ => trivial), fun cv1 => Op1.fieldAddr Tryd.underlying36 rfl (fun w => ⟨2, Tryd.sizeOf24 w⟩) fapi_Destination_1 (.tmp rfl)⟩, ⟨.inr ⟨fun cv1 => [], (fun _ _ _ _ => trivial), fun cv1 => Op1.load ty24 (.tmp rfl)⟩, ⟨.inr ⟨fun cv1 => [], (fun _ _ _ _ => trivial), fun cv1 => Op1.call Tryd.call35 (r07_Whole_spec _ _ _ _ hv10) ⟨(.tmp rfl), (.tmp rfl), trivial⟩⟩, ⟨.inr ⟨fun cv1 => [], (fun _ _ _ _ => trivial), fun cv1 => Op1.move (.tmp rfl)⟩, ⟨.inr ⟨fun cv1 => [], (fun _ _ _ _ => trivial), fun cv1 => Op1.extract0 (.tmp rfl)⟩, ⟨.inr ⟨fun cv1 => [], (fun _ _ _ _ => trivial), fun cv1 => Op1.extract1 (.tmp rfl)⟩, ⟨.inr ⟨fun cv1 => [], (fun _ _ _ _ => trivial), fun cv1 => Op1.assign (.tmp rfl)⟩, ⟨.inr ⟨fun cv1 => [], (fun _ _ _ _ => trivial), fun cv1 => Op1.assign (.tmp rfl)⟩, trivial⟩⟩⟩⟩⟩⟩⟩⟩⟩⟩⟩⟩ trivial (fun cv1 => ?_)
      refine WN.seq ?_
      obtain ⟨s11, hs12, hk13⟩ := bind_some hm
      clear hm
      refine W.join (fun s : Bool => s = s11) (fun s => [(43, (tB.is s)), (2, ((tL tapi_Destination).is l)), (3, (tapi_Unit.ptr a)), (4, (tapi_Unit.ptr b)), (7, (tO tS k1 out)), (8, ((tI .i64).is i)), (9, ((tL tapi_Step).is whole.1)), (11, ((tL tapi_Step).is whole1.1))]) (fun s => [(13, Own tS 9 k1 out.length)]) ?_ ?_
      · rintro v2 hj25
        try dsimp only at hj25
        subst hj25
        have hm := hk13
        clear hk13
        try dsimp only at hm
        change W _ _ _ _ _ _ _ [(43, (tB.is v2)), (2, ((tL tapi_Destination).is l)), (3, (tapi_Unit.ptr a)), (4, (tapi_Unit.ptr b)), (7, (tO tS k1 out)), (8, ((tI .i64).is i)), (9, ((tL tapi_Step).is whole.1)), (11, ((tL tapi_Step).is whole1.1))] [(13, Own tS 9 k1 out.length)]
        refine W.cond (.tmp rfl) (fun hc16 => ?_) (fun hc16 => ?_)
        · have hp17 := hc16
          rw [if_pos hp17] at hm
          refine W.region ?_
          refine WL.mv rfl rfl ?_
          refine WL.mv rfl rfl ?_
          obtain ⟨text, hv18, hm⟩ := bind_some hm
          refine WL.op rfl (Op1.call Tryd.call36 (r07_Text_spec _ _ _ hv18) ⟨(.tmp rfl), trivial⟩) ?_
          obtain ⟨v3, hv19, hm⟩ := bind_some hm
          refine WL.op rfl (Op1.catC hv19 (.tmp rfl) (.str rfl (by decide))) ?_
          refine WL.mv rfl rfl ?_
          obtain ⟨text1, hv20, hm⟩ := bind_some hm
          refine WL.op rfl (Op1.call Tryd.call36 (r07_Text_spec _ _ _ hv20) ⟨(.tmp rfl), trivial⟩) ?_
          obtain ⟨v4, hv21, hm⟩ := bind_some hm
          refine WL.op rfl (Op1.catC hv21 (.tmp rfl) (.tmp rfl)) ?_
          refine WL.op rfl (Op1.buildSlice (n := 1) (ys := [(0, v4)]) (z := ([] : Str)) (xs := [v4]) Tryd.underlying46 el9 ze9 ⟨rfl, (.tmp rfl), trivial⟩ (by simp) (by decide) rfl) ?_
          obtain ⟨out1, hv22, hm⟩ := bind_some hm
          refine WL.opR rfl (OpR.appC (key := 13) hv22 Tryd.underlying46 el9 (.tmp rfl) (.tmp rfl) rfl) (fun k2 => ?_)
          refine WL.gv rfl rfl ?_
          refine WL.nil ?_
          refine WN.block ?_
          refine WN.seq ?_
          refine W.region ?_
          refine WL.mv rfl rfl ?_
          refine WL.lenL (s := 2) (.tmp rfl) fun hl23 => ?_
          refine WL.op rfl (Op1.addI1 (.tmp rfl) (.int (inR64.2 (by omega))) hp6 hl23) ?_
          refine WL.gv rfl rfl ?_
          refine WL.nil ?_
          exact WN.again n4 ((out1, i + 1), k2) (Nat.lt_succ_self n4) hm ⟨Ent.q rfl, Ent.q rfl, Ent.q rfl, Ent.q rfl, Ent.q rfl, trivial⟩ ⟨rfl, rfl, trivial⟩
        · have hp17 := ne_of_false hc16
          rw [if_neg hp17] at hm
          refine W.skip ?_
          refine WN.block ?_
          refine WN.seq ?_
          refine W.region ?_
          refine WL.mv rfl rfl ?_
          refine WL.lenL (s := 2) (.tmp rfl) fun hl24 => ?_
          refine WL.op rfl (Op1.addI1 (.tmp rfl) (.int (inR64.2 (by omega))) hp6 hl24) ?_
          refine WL.gv rfl rfl ?_
          refine WL.nil ?_
          exact WN.again n4 ((out, i + 1), k1) (Nat.lt_succ_self n4) hm ⟨Ent.q rfl, Ent.q rfl, Ent.q rfl, Ent.q rfl, Ent.q rfl, trivial⟩ ⟨rfl, rfl, trivial⟩
      · have hm := hs12
        clear hs12
        refine W.region ?_
        refine WL.mv rfl rfl ?_
        refine WL.mv rfl rfl ?_
        rcases bcases (whole.2) with hb14 | hb14
        · have hp15 := hb14
          rw [if_pos hp15] at hm
          refine WL.run rfl rfl rfl rfl hb14 rfl rfl (Op1.move (.tmp rfl)) ?_
          refine WL.op rfl (Op1.pickT (.tmp rfl) hb14 (.tmp rfl)) ?_
          refine WL.nil ?_
          exact WN.meet whole1.2 (Option.some.inj hm) ⟨Ent.q rfl, Ent.q rfl, Ent.q rfl, Ent.q rfl, Ent.q rfl, Ent.q rfl, Ent.q rfl, Ent.q rfl, trivial⟩ ⟨rfl, rfl, trivial⟩
        · have hp15 := ne_of_false hb14
          rw [if_neg hp15] at hm
          refine WL.pass rfl rfl rfl rfl hb14 rfl rfl ?_
          refine WL.op rfl (Op1.pickF (.tmp rfl) hb14 .bool) ?_
          refine WL.nil ?_
          exact WN.meet false (Option.some.inj hm) ⟨Ent.q rfl, Ent.q rfl, Ent.q rfl, Ent.q rfl, Ent.q rfl, Ent.q rfl, Ent.q rfl, Ent.q rfl, trivial⟩ ⟨rfl, rfl, trivial⟩
    · have hp6 := of_decide_eq_false hc5
      rw [if_neg hp6] at hm
      refine W.exit rfl ?_
      have hr26 := Option.some.inj hm
      clear hm
      subst hr26
      have hm := hk3
      try dsimp only at hm
      refine WN.seq ?_
      refine W.sr ?_
      refine WL.mv rfl rfl ?_
      refine WL.gv rfl rfl ?_
      refine WL.ns ?_
      cases hm
      exact W.ret1 () rfl (Opd.own (.tmp rfl)) trivial

theorem r03_Same_spec (n : Nat) (a : List Str) (b : List Str) (r : Bool) (hm : M.r03_Same n a b = some r) : FSpec Tryd.prog 22 [((tL tS).is a), ((tL tS).is b)] (tB.is r) := by
  unfold M.r03_Same at hm
  refine FSpec.of Tryd.func22 rfl rfl rfl (fun g0 => ?_)
  refine W.sr ?_
  refine WL.op rfl (Op1.assign .bool) ?_
  refine WL.ns ?_
  refine W.seq ?_
  refine W.sr ?_
  refine WL.mv rfl rfl ?_
  refine WL.op rfl (Op1.lenL Tryd.underlying46 (.tmp rfl)) ?_
  refine WL.mv rfl rfl ?_
  refine WL.op rfl (Op1.lenL Tryd.underlying46 (.tmp rfl)) ?_
  refine WL.op rfl (Op1.neI (.tmp rfl) (.tmp rfl)) ?_
  refine WL.ns ?_
  refine W.cond (.tmp rfl) (fun hc1 => ?_) (fun hc1 => ?_)
  · have hp2 := of_decide_eq_true hc1
    rw [if_pos hp2] at hm
    refine W.sr ?_
    refine WL.op rfl (Op1.assign .bool) ?_
    refine WL.ns ?_
    cases hm
    exact W.ret1 () rfl (.tmp rfl) trivial
  · have hp2 := of_decide_eq_false hc1
    rw [if_neg hp2] at hm
    refine W.skip ?_
    refine WN.seq ?_
    refine W.seq ?_
    refine W.sr ?_
    refine WL.op rfl (Op1.assign (.int (inR64.2 (by omega)))) ?_
    refine WL.ns ?_
    refine W.block ?_
    obtain ⟨s3, hs4, hk5⟩ := bind_some hm
    clear hm
    refine W.loop (fun m (s : Int) => M.r03_Same_loop1 a b m s = some s3) (fun s => [(5, ((tI .i64).is s)), (0, ((tL tS).is a)), (1, ((tL tS).is b))]) (fun s => []) _ (0 : Int) hs4 ⟨Ent.q rfl, Ent.q rfl, Ent.q rfl, trivial⟩ trivial ?_
    rintro n6 i hm
    try dsimp only at hm
    change W _ _ _ _ _ _ _ [(5, ((tI .i64).is i)), (0, ((tL tS).is a)), (1, ((tL tS).is b))] []
    cases n6 with
    | zero => rw [M.r03_Same_loop1.eq_1] at hm; cases hm
    | succ n6 =>
      rw [M.r03_Same_loop1.eq_2] at hm
      refine W.seq ?_
      refine W.sr ?_
      refine WL.mv rfl rfl ?_
      refine WL.mv rfl rfl ?_
      refine WL.op rfl (Op1.lenL Tryd.underlying46 (.tmp rfl)) ?_
      refine WL.op rfl (Op1.ltI (.tmp rfl) (.tmp rfl)) ?_
      refine WL.ns ?_
      refine W.cond (.tmp rfl) (fun hc7 => ?_) (fun hc7 => ?_)
      · have hp8 := of_decide_eq_true hc7
        rw [if_pos hp8] at hm
        refine W.skip ?_
        refine WN.seq ?_
        refine W.seq ?_
        refine W.block ?_
        refine W.seq ?_
        obtain ⟨v, hv9, hm⟩ := bind_some hm
        obtain ⟨v1, hv10, hm⟩ := bind_some hm
        refine W.draw [.c ((tL tS).is a), .c ((tI .i64).is i), .c (tS.ptr v), .c (tS.is v), .c ((tL tS).is b), .c ((tI .i64).is i), .c (tS.ptr v1), .c (tS.is v1), .c (tB.is (v != v1))] [([], [0]), ([], [5]), ([0, 1], []), ([2], []), ([], [1]), ([], [5]), ([4, 5], []), ([6], []), ([3, 7], [])] Tryd.mixed rfl rfl rfl rfl ⟨.inr (Op1.move (.tmp rfl)), .inr (Op1.move (.tmp rfl)), .inr (Op1.idx hv9 Tryd.underlying46 Tryd.sizeOf9 (.tmp rfl) (.tmp rfl)), .inr (Op1.load ty9 (.tmp rfl)), .inr (Op1.move (.tmp rfl)), .inr (Op1.move (.tmp rfl)), .inr (Op1.idx hv10 Tryd.underlying46 Tryd.sizeOf9 (.tmp rfl) (.tmp rfl)), .inr (Op1.load ty9 (.tmp rfl)), .inr (Op1.neS (.tmp rfl) (.tmp rfl)), trivial⟩ ?_
        refine WN.seq ?_
        refine W.cond (.tmp rfl) (fun hc11 => ?_) (fun hc11 => ?_)
        · have hp12 := hc11
          rw [if_pos hp12] at hm
          refine W.sr ?_
          refine WL.op rfl (Op1.assign .bool) ?_
          refine WL.ns ?_
          have hr13 := Option.some.inj hm
          clear hm
          subst hr13
          have hm := hk5
          try dsimp only at hm
          cases hm
          exact W.ret1 () rfl (.tmp rfl) trivial
        · have hp12 := ne_of_false hc11
          rw [if_neg hp12] at hm
          refine W.skip ?_
          refine WN.block ?_
          refine WN.seq ?_
          refine W.region ?_
          refine WL.mv rfl rfl ?_
          refine WL.lenL (s := 0) (.tmp rfl) fun hl14 => ?_
          refine WL.op rfl (Op1.addI1 (.tmp rfl) (.int (inR64.2 (by omega))) hp8 hl14) ?_
          refine WL.gv rfl rfl ?_
          refine WL.nil ?_
          exact WN.again n6 (i + 1) (Nat.lt_succ_self n6) hm ⟨Ent.q rfl, Ent.q rfl, Ent.q rfl, trivial⟩ trivial
      · have hp8 := of_decide_eq_false hc7
        rw [if_neg hp8] at hm
        refine W.exit rfl ?_
        have hr15 := Option.some.inj hm
        clear hm
        subst hr15
        have hm := hk5
        try dsimp only at hm
        refine WN.seq ?_
        refine W.sr ?_
        refine WL.op rfl (Op1.assign .bool) ?_
        refine WL.ns ?_
        cases hm
        exact W.ret1 () rfl (.tmp rfl) trivial

theorem law47_DestinationsNames_spec (n : Nat) (a : api_Unit) (b : api_Unit) (l : List api_Destination) (r : Bool) (hm : M.law47_DestinationsNames n a b l = some r) : FSpec Tryd.prog 7 [(tapi_Unit.is a), (tapi_Unit.is b), ((tL tapi_Destination).is l)] (tB.is r) := by
  unfold M.law47_DestinationsNames at hm
  refine FSpec.of Tryd.func7 rfl rfl rfl (fun g0 => ?_)
  refine W.sr ?_
  refine WL.op rfl (Op1.box (.tmp rfl)) ?_
  refine WL.op rfl (Op1.box (.tmp rfl)) ?_
  refine WL.op rfl (Op1.assign .bool) ?_
  refine WL.ns ?_
  refine W.seq ?_
  obtain ⟨s1, hs2, hk3⟩ := bind_some hm
  clear hm
  refine W.join (fun s : Bool => s = s1) (fun s => [(23, (tB.is s)), (2, ((tL tapi_Destination).is l)), (3, (tapi_Unit.ptr a)), (4, (tapi_Unit.ptr b))]) (fun s => []) ?_ ?_
  · rintro v hj19
    try dsimp only at hj19
    subst hj19
    have hm := hk3
    clear hk3
    try dsimp only at hm
    change W _ _ _ _ _ _ _ [(23, (tB.is v)), (2, ((tL tapi_Destination).is l)), (3, (tapi_Unit.ptr a)), (4, (tapi_Unit.ptr b))] []
    refine W.cond (.tmp rfl) (fun hc13 => ?_) (fun hc13 => ?_)
    · have hp14 := hc13
      rw [if_pos hp14] at hm
      refine W.sr ?_
      obtain ⟨awake1, hv15, hm⟩ := bind_some hm
      refine WL.op rfl (Op1.call Tryd.call10 (law47_awake_spec _ _ hv15) trivial) ?_
      refine WL.gv rfl rfl ?_
      refine WL.ns ?_
      cases hm
      exact W.ret1 () rfl (.tmp rfl) trivial
    · have hp14 := ne_of_false hc13
      rw [if_neg hp14] at hm
      refine W.skip ?_
      refine WN.seq ?_
      refine W.seq ?_
      obtain ⟨names, hv16, hm⟩ := bind_some hm
      obtain ⟨names1, hv17, hm⟩ := bind_some hm
      obtain ⟨same, hv18, hm⟩ := bind_some hm
      refine W.draw [.c (tapi_Unit.is a), .c (tapi_Unit.is b), .c ((tL tapi_Destination).is l), .c ((tL tS).is names), .c (tapi_Unit.is a), .c (tapi_Unit.is b), .c ((tL tapi_Destination).is l), .c ((tL tS).is names1), .c (tB.is same), .c (tB.is same)] [([], [3]), ([], [4]), ([], [2]), ([0, 1, 2], []), ([], [3]), ([], [4]), ([], [2]), ([4, 5, 6], []), ([3, 7], []), ([8], [])] Tryd.mixed rfl rfl rfl rfl ⟨.inr (Op1.load ty43 (.tmp rfl)), .inr (Op1.load ty43 (.tmp rfl)), .inr (Op1.move (.tmp rfl)), .inr (Op1.call Tryd.call23 (destinations_Names_spec _ _ _ _ _ hv16) ⟨(.tmp rfl), (.tmp rfl), (.tmp rfl), trivial⟩), .inr (Op1.load ty43 (.tmp rfl)), .inr (Op1.load ty43 (.tmp rfl)), .inr (Op1.move (.tmp rfl)), .inr (Op1.call Tryd.call24 (r47_Names_spec _ _ _ _ _ hv17) ⟨(.tmp rfl), (.tmp rfl), (.tmp rfl), trivial⟩), .inr (Op1.call Tryd.call22 (r03_Same_spec _ _ _ _ hv18) ⟨(.tmp rfl), (.tmp rfl), trivial⟩), .inr (Op1.assign (.tmp rfl)), trivial⟩ ?_
      refine WN.seq ?_
      cases hm
      exact W.ret1 () rfl (.tmp rfl) trivial
  · have hm := hs2
    clear hs2
    refine W.region ?_
    obtain ⟨awake, hv4, hm⟩ := bind_some hm
    refine WL.op rfl (Op1.call Tryd.call10 (law47_awake_spec _ _ hv4) trivial) ?_
    refine WL.op rfl (Op1.notB (.tmp rfl)) ?_
    refine WL.mv rfl rfl ?_
    rcases bcases (!awake) with hb5 | hb5
    · have hp6 := not_pos hb5
      rw [if_pos hp6] at hm
      refine WL.pass rfl rfl rfl rfl hb5 rfl rfl ?_
      refine WL.pass rfl rfl rfl rfl hb5 rfl rfl ?_
      refine WL.pass rfl rfl rfl rfl hb5 rfl rfl ?_
      refine WL.op rfl (Op1.pickT (.tmp rfl) hb5 .bool) ?_
      refine WL.mv rfl rfl ?_
      refine WL.pass rfl rfl rfl rfl rfl rfl rfl ?_
      refine WL.pass rfl rfl rfl rfl rfl rfl rfl ?_
      refine WL.pass rfl rfl rfl rfl rfl rfl rfl ?_
      refine WL.op rfl (Op1.pickT (.tmp rfl) rfl .bool) ?_
      refine WL.mv rfl rfl ?_
      refine WL.pass rfl rfl rfl rfl rfl rfl rfl ?_
      refine WL.pass rfl rfl rfl rfl rfl rfl rfl ?_
      refine WL.pass rfl rfl rfl rfl rfl rfl rfl ?_
      refine WL.op rfl (Op1.pickT (.tmp rfl) rfl .bool) ?_
      refine WL.nil ?_
      exact WN.meet true (Option.some.inj hm) ⟨Ent.q rfl, Ent.q rfl, Ent.q rfl, Ent.q rfl, trivial⟩ trivial
    · have hp6 := not_neg hb5
      rw [if_neg hp6] at hm
      refine WL.run rfl rfl rfl rfl hb5 rfl rfl (Op1.load ty43 (.tmp rfl)) ?_
      obtain ⟨few, hv7, hm⟩ := bind_some hm
      refine WL.run rfl rfl rfl rfl hb5 rfl rfl (Op1.call Tryd.call21 (r07_Few_spec _ _ _ _ hv7) ⟨(.tmp rfl), (.int (inR64.2 (by omega))), trivial⟩) ?_
      refine WL.run rfl rfl rfl rfl hb5 rfl rfl (Op1.notB (.tmp rfl)) ?_
      refine WL.op rfl (Op1.pickF (.tmp rfl) hb5 (.tmp rfl)) ?_
      refine WL.mv rfl rfl ?_
      rcases bcases (!few) with hb8 | hb8
      · have hp9 := not_pos hb8
        rw [if_pos hp9] at hm
        refine WL.pass rfl rfl rfl rfl hb8 rfl rfl ?_
        refine WL.pass rfl rfl rfl rfl hb8 rfl rfl ?_
        refine WL.pass rfl rfl rfl rfl hb8 rfl rfl ?_
        refine WL.op rfl (Op1.pickT (.tmp rfl) hb8 .bool) ?_
        refine WL.mv rfl rfl ?_
        refine WL.pass rfl rfl rfl rfl rfl rfl rfl ?_
        refine WL.pass rfl rfl rfl rfl rfl rfl rfl ?_
        refine WL.pass rfl rfl rfl rfl rfl rfl rfl ?_
        refine WL.op rfl (Op1.pickT (.tmp rfl) rfl .bool) ?_
        refine WL.nil ?_
        exact WN.meet true (Option.some.inj hm) ⟨Ent.q rfl, Ent.q rfl, Ent.q rfl, Ent.q rfl, trivial⟩ trivial
      · have hp9 := not_neg hb8
        rw [if_neg hp9] at hm
        refine WL.run rfl rfl rfl rfl hb8 rfl rfl (Op1.load ty43 (.tmp rfl)) ?_
        obtain ⟨few1, hv10, hm⟩ := bind_some hm
        refine WL.run rfl rfl rfl rfl hb8 rfl rfl (Op1.call Tryd.call21 (r07_Few_spec _ _ _ _ hv10) ⟨(.tmp rfl), (.int (inR64.2 (by omega))), trivial⟩) ?_
        refine WL.run rfl rfl rfl rfl hb8 rfl rfl (Op1.notB (.tmp rfl)) ?_
        refine WL.op rfl (Op1.pickF (.tmp rfl) hb8 (.tmp rfl)) ?_
        refine WL.mv rfl rfl ?_
        rcases bcases (!few1) with hb11 | hb11
        · have hp12 := not_pos hb11
          rw [if_pos hp12] at hm
          refine WL.pass rfl rfl rfl rfl hb11 rfl rfl ?_
          refine WL.pass rfl rfl rfl rfl hb11 rfl rfl ?_
          refine WL.pass rfl rfl rfl rfl hb11 rfl rfl ?_
          refine WL.op rfl (Op1.pickT (.tmp rfl) hb11 .bool) ?_
          refine WL.nil ?_
          exact WN.meet true (Option.some.inj hm) ⟨Ent.q rfl, Ent.q rfl, Ent.q rfl, Ent.q rfl, trivial⟩ trivial
        · have hp12 := not_neg hb11
          rw [if_neg hp12] at hm
          refine WL.run rfl rfl rfl rfl hb11 rfl rfl (Op1.move (.tmp rfl)) ?_
          refine WL.run rfl rfl rfl rfl hb11 rfl rfl (Op1.lenL Tryd.underlying22 (.tmp rfl)) ?_
          refine WL.run rfl rfl rfl rfl hb11 rfl rfl (Op1.gtI (.tmp rfl) (.int (inR64.2 (by omega)))) ?_
          refine WL.op rfl (Op1.pickF (.tmp rfl) hb11 (.tmp rfl)) ?_
          refine WL.nil ?_
          exact WN.meet (decide ((40 : Int) < (l.length : Int))) (Option.some.inj hm) ⟨Ent.q rfl, Ent.q rfl, Ent.q rfl, Ent.q rfl, trivial⟩ trivial

end Go.Proofs.YtdnemlcoeecbjaaDoor
