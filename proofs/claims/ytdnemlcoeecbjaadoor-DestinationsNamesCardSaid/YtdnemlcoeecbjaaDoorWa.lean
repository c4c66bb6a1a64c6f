/-
  The code does what the models say: written by program.
-/
import Derived.Test.YtdnemlcoeecbjaaDoorBd
set_option linter.unusedVariables false
set_option linter.unusedSimpArgs false
namespace Go.Proofs.YtdnemlcoeecbjaaDoor
open Go Go.Dec

set_option maxRecDepth 100000
set_option maxHeartbeats 4000000
theorem destinations_To_1_spec (d : api_Destination) (c : api_Id) (r : Bool) (hm : M.destinations_To_1 d c = some r) : FSpec Tryd.prog 30 [(tapi_Destination.is d), (tapi_Id.ptr c)] (tB.is r) := by
  unfold M.destinations_To_1 at hm
  refine FSpec.of Tryd.func30 rfl rfl rfl (fun g0 => ?_)
  refine W.sr ?_
  refine WL.op rfl (Op1.box (.tmp rfl)) ?_
  refine WL.op rfl (Op1.assign .bool) ?_
  refine WL.nr ?_
  refine WL.op rfl (Op1.fieldAddr Tryd.underlying36 rfl (fun w => ⟨2, Tryd.sizeOf24 w⟩) fapi_Destination_0 (.tmp rfl)) ?_
  refine WL.op rfl (Op1.load ty24 (.tmp rfl)) ?_
  refine WL.op rfl (Op1.load ty24 (.tmp rfl)) ?_
  refine WL.op rfl (Op1.eqSt (D := 2) rfl (by decide) eg24 eq24 (.tmp rfl) (.tmp rfl)) ?_
  refine WL.gv rfl rfl ?_
  refine WL.ns ?_
  cases hm
  exact W.ret1 () rfl (.tmp rfl) trivial

theorem slices_IndexFunc_api_Destination_api_Destination_spec (n : Nat) (s0_ : List api_Destination) (f : api_Destination → Option Bool) (r : Int) (hm : M.slices_IndexFunc_api_Destination_api_Destination n s0_ f = some r) : FSpec Tryd.prog 44 [((tL tapi_Destination).is s0_), (tF Tryd.prog (fun s : api_Destination × Bool => f s.1 = some s.2) (fun s : api_Destination × Bool => [tapi_Destination.is s.1]) (fun s : api_Destination × Bool => (tB.is s.2)))] ((tI .i64).is r) := by
  unfold M.slices_IndexFunc_api_Destination_api_Destination at hm
  refine FSpec.of Tryd.func44 rfl rfl rfl (fun g0 => ?_)
  refine W.sr ?_
  refine WL.op rfl (Op1.assign (.int (inR64.2 (by omega)))) ?_
  refine WL.ns ?_
  refine W.seq ?_
  refine W.sr ?_
  refine WL.mv rfl rfl ?_
  refine WL.op rfl (Op1.lenL Tryd.underlying22 (.tmp rfl)) ?_
  refine WL.op rfl (Op1.move (.int (inR64.2 (by omega)))) ?_
  refine WL.ns ?_
  refine W.block ?_
  obtain ⟨s1, hs2, hk3⟩ := bind_some hm
  clear hm
  refine W.loop (fun m (s : Int) => M.slices_IndexFunc_api_Destination_api_Destination_loop1 s0_ f m s = some s1) (fun s => [(8, ((tI .i64).is s)), (0, ((tL tapi_Destination).is s0_)), (1, (tF Tryd.prog (fun s : api_Destination × Bool => f s.1 = some s.2) (fun s : api_Destination × Bool => [tapi_Destination.is s.1]) (fun s : api_Destination × Bool => (tB.is s.2)))), (7, ((tI .i64).is (s0_.length : Int)))]) (fun s => []) _ (0 : Int) hs2 ⟨Ent.q rfl, Ent.q rfl, Ent.q rfl, Ent.q rfl, trivial⟩ trivial ?_
  rintro n4 v hm
  try dsimp only at hm
  change W _ _ _ _ _ _ _ [(8, ((tI .i64).is v)), (0, ((tL tapi_Destination).is s0_)), (1, (tF Tryd.prog (fun s : api_Destination × Bool => f s.1 = some s.2) (fun s : api_Destination × Bool => [tapi_Destination.is s.1]) (fun s : api_Destination × Bool => (tB.is s.2)))), (7, ((tI .i64).is (s0_.length : Int)))] []
  cases n4 with
  | zero => rw [M.slices_IndexFunc_api_Destination_api_Destination_loop1.eq_1] at hm; cases hm
  | succ n4 =>
    rw [M.slices_IndexFunc_api_Destination_api_Destination_loop1.eq_2] at hm
    refine W.sr ?_
    refine WL.op rfl (Op1.ltI (.tmp rfl) (.tmp rfl)) ?_
    refine WL.ns ?_
    refine W.seq ?_
    refine W.cond (.tmp rfl) (fun hc5 => ?_) (fun hc5 => ?_)
    · have hp6 := of_decide_eq_true hc5
      rw [if_pos hp6] at hm
      refine W.skip ?_
      refine WN.seq ?_
      refine W.seq ?_
      refine W.block ?_
      refine W.sr ?_
      refine WL.mv rfl rfl ?_
      refine WL.gv rfl rfl ?_
      refine WL.nr ?_
      refine WL.mv rfl rfl ?_
      refine WL.mv rfl rfl ?_
      refine WL.mv rfl rfl ?_
      obtain ⟨v1, hv7, hm⟩ := bind_some hm
      refine WL.op rfl (Op1.idx hv7 Tryd.underlying22 Tryd.sizeOf36 (.tmp rfl) (.tmp rfl)) ?_
      refine WL.op rfl (Op1.load ty36 (.tmp rfl)) ?_
      obtain ⟨v2, hv8, hm⟩ := bind_some hm
      refine WL.op rfl (Op1.callF (ok := (fun s : api_Destination × Bool => f s.1 = some s.2)) (As := (fun s : api_Destination × Bool => [tapi_Destination.is s.1])) (A := (fun s : api_Destination × Bool => (tB.is s.2))) (s := (v1, v2)) (.tmp rfl) hv8 ⟨(.tmp rfl), trivial⟩) ?_
      refine WL.ns ?_
      refine W.cond (.tmp rfl) (fun hc9 => ?_) (fun hc9 => ?_)
      · have hp10 := hc9
        rw [if_pos hp10] at hm
        refine W.sr ?_
        refine WL.mv rfl rfl ?_
        refine WL.gv rfl rfl ?_
        refine WL.ns ?_
        have hr11 := Option.some.inj hm
        clear hm
        subst hr11
        have hm := hk3
        try dsimp only at hm
        cases hm
        exact W.ret1 () rfl (.tmp rfl) trivial
      · have hp10 := ne_of_false hc9
        rw [if_neg hp10] at hm
        refine W.skip ?_
        refine WN.block ?_
        refine WN.seq ?_
        refine W.region ?_
        refine WL.lenL (s := 0) (.tmp rfl) fun hl12 => ?_
        refine WL.op rfl (Op1.addI1 (.tmp rfl) (.int (inR64.2 (by omega))) hp6 hl12) ?_
        refine WL.mv rfl rfl ?_
        refine WL.nil ?_
        exact WN.again n4 (v + 1) (Nat.lt_succ_self n4) hm ⟨Ent.q rfl, Ent.q rfl, Ent.q rfl, Ent.q rfl, trivial⟩ trivial
    · have hp6 := of_decide_eq_false hc5
      rw [if_neg hp6] at hm
      refine W.exit rfl ?_
      have hr13 := Option.some.inj hm
      clear hm
      subst hr13
      have hm := hk3
      try dsimp only at hm
      refine WN.seq ?_
      refine W.sr ?_
      refine WL.op rfl (Op1.assign (.int (inR64.2 (by omega)))) ?_
      refine WL.ns ?_
      cases hm
      exact W.ret1 () rfl (.tmp rfl) trivial

theorem destinations_found_spec (n : Nat) (l : List api_Destination) (such : api_Destination → Option Bool) (r : api_Destination × Bool) (hm : M.destinations_found n l such = some r) : FSpec Tryd.prog 29 [((tL tapi_Destination).is l), (tF Tryd.prog (fun s : api_Destination × Bool => such s.1 = some s.2) (fun s : api_Destination × Bool => [tapi_Destination.is s.1]) (fun s : api_Destination × Bool => (tB.is s.2)))] (Asn.tuple2 (tapi_Destination.is r.1) (tB.is r.2)) := by
  unfold M.destinations_found at hm
  refine FSpec.of Tryd.func29 rfl rfl rfl (fun g0 => ?_)
  refine W.sr ?_
  refine WL.opR rfl (OpR.alloc 4 ze36) (fun b => ?_)
  refine WL.op rfl (Op1.assign .bool) ?_
  refine WL.nr ?_
  refine WL.mv rfl rfl ?_
  refine WL.mv rfl rfl ?_
  obtain ⟨destin, hv1, hm⟩ := bind_some hm
  refine WL.op rfl (Op1.call Tryd.call44 (slices_IndexFunc_api_Destination_api_Destination_spec _ _ _ _ hv1) ⟨(.tmp rfl), (.tmp rfl), trivial⟩) ?_
  refine WL.gv rfl rfl ?_
  refine WL.ns ?_
  refine W.seq ?_
  refine W.sr ?_
  refine WL.mv rfl rfl ?_
  refine WL.op rfl (Op1.ltI (.tmp rfl) (.int (inR64.2 (by omega)))) ?_
  refine WL.ns ?_
  refine W.cond (.tmp rfl) (fun hc2 => ?_) (fun hc2 => ?_)
  · have hp3 := of_decide_eq_true hc2
    rw [if_pos hp3] at hm
    refine W.sr ?_
    refine WL.op rfl (Op1.build (s := tapi_Destination) (x := (⟨zapi_Id, zapi_Id⟩ : api_Destination)) zapi_Destination_f rfl Tryd.underlying36 (zapi_Destination_sz _ Tryd.underlying36) ze36 rfl) ?_
    refine WL.opU (OpR.storeB (b := b) 4 Tryd.sizeOf36 (Cellable.is tapi_Destination (⟨zapi_Id, zapi_Id⟩ : api_Destination)) rfl (.tmp rfl) (.tmp rfl)) (fun _ => ?_)
    refine WL.op rfl (Op1.assign .bool) ?_
    refine WL.ns ?_
    cases hm
    exact W.retQ2 () rfl rfl (ResAt.cell 4 Tryd.isAgg36 Tryd.sizeOf36 rfl (.tmp rfl)) (ResAt.tmp (.tmp rfl)) trivial
  · have hp3 := of_decide_eq_false hc2
    rw [if_neg hp3] at hm
    refine W.skip ?_
    refine WN.seq ?_
    refine W.sr ?_
    refine WL.mv rfl rfl ?_
    refine WL.mv rfl rfl ?_
    obtain ⟨v, hv4, hm⟩ := bind_some hm
    refine WL.op rfl (Op1.idx hv4 Tryd.underlying22 Tryd.sizeOf36 (.tmp rfl) (.tmp rfl)) ?_
    refine WL.op rfl (Op1.load ty36 (.tmp rfl)) ?_
    refine WL.opU (OpR.storeB (b := b) 4 Tryd.sizeOf36 (Cellable.is tapi_Destination v) rfl (.tmp rfl) (.tmp rfl)) (fun _ => ?_)
    refine WL.op rfl (Op1.assign .bool) ?_
    refine WL.ns ?_
    cases hm
    exact W.retQ2 () rfl rfl (ResAt.cell 4 Tryd.isAgg36 Tryd.sizeOf36 rfl (.tmp rfl)) (ResAt.tmp (.tmp rfl)) trivial

theorem destinations_To_spec (n : Nat) (id : api_Id) (l : List api_Destination) (r : api_Id × Bool) (hm : M.destinations_To n id l = some r) : FSpec Tryd.prog 11 [(tapi_Id.is id), ((tL tapi_Destination).is l)] (Asn.tuple2 (tapi_Id.is r.1) (tB.is r.2)) := by
  unfold M.destinations_To at hm
  refine FSpec.of Tryd.func11 rfl rfl rfl (fun g0 => ?_)
  refine W.sr ?_
  refine WL.op rfl (Op1.box (.tmp rfl)) ?_
  refine WL.opR rfl (OpR.alloc 4 ze24) (fun b => ?_)
  refine WL.op rfl (Op1.assign .bool) ?_
  refine WL.nr ?_
  refine WL.mv rfl rfl ?_
  refine WL.op rfl (Op1.makeFunc (ok := (fun s : api_Destination × Bool => (fun s0 => M.destinations_To_1 s0 id) s.1 = some s.2)) (As := (fun s : api_Destination × Bool => [tapi_Destination.is s.1])) (A := (fun s : api_Destination × Bool => (tB.is s.2))) (Cs := [(tapi_Id.ptr id)]) (cap := [.tmp 2]) Tryd.call30 ⟨(.tmp rfl), trivial⟩ (fun s hs => destinations_To_1_spec _ _ _ hs)) ?_
  obtain ⟨found, hv1, hm⟩ := bind_some hm
  refine WL.op rfl (Op1.call Tryd.call29 (destinations_found_spec _ _ _ _ hv1) ⟨(.tmp rfl), (.tmp rfl), trivial⟩) ?_
  refine WL.mv rfl rfl ?_
  refine WL.op rfl (Op1.extract0 (.tmp rfl)) ?_
  refine WL.op rfl (Op1.extract1 (.tmp rfl)) ?_
  refine WL.opR rfl (OpR.alloc 6 ze36) (fun b1 => ?_)
  refine WL.opU (OpR.storeB (b := b1) 6 Tryd.sizeOf36 (Cellable.is tapi_Destination found.1) rfl (.tmp rfl) (.tmp rfl)) (fun _ => ?_)
  refine WL.sealed (t := tapi_Destination) (u := found.1) 6 6 rfl rfl ?_
  refine WL.gv rfl rfl ?_
  refine WL.nr ?_
  refine WL.op rfl (Op1.fieldAddr Tryd.underlying36 rfl (fun w => ⟨2, Tryd.sizeOf24 w⟩) fapi_Destination_1 (.tmp rfl)) ?_
  refine WL.op rfl (Op1.load ty24 (.tmp rfl)) ?_
  refine WL.mv rfl rfl ?_
  refine WL.opU (OpR.storeB (b := b) 4 Tryd.sizeOf24 (Cellable.is tapi_Id found.1.To) rfl (.tmp rfl) (.tmp rfl)) (fun _ => ?_)
  refine WL.gv rfl rfl ?_
  refine WL.ns ?_
  cases hm
  exact W.retQ2 () rfl rfl (ResAt.cell 4 Tryd.isAgg24 Tryd.sizeOf24 rfl (.tmp rfl)) (ResAt.tmp (.tmp rfl)) trivial

theorem destinations_From_1_spec (d : api_Destination) (c : api_Id) (r : Bool) (hm : M.destinations_From_1 d c = some r) : FSpec Tryd.prog 31 [(tapi_Destination.is d), (tapi_Id.ptr c)] (tB.is r) := by
  unfold M.destinations_From_1 at hm
  refine FSpec.of Tryd.func31 rfl rfl rfl (fun g0 => ?_)
  refine W.sr ?_
  refine WL.op rfl (Op1.box (.tmp rfl)) ?_
  refine WL.op rfl (Op1.assign .bool) ?_
  refine WL.nr ?_
  refine WL.op rfl (Op1.fieldAddr Tryd.underlying36 rfl (fun w => ⟨2, Tryd.sizeOf24 w⟩) fapi_Destination_1 (.tmp rfl)) ?_
  refine WL.op rfl (Op1.load ty24 (.tmp rfl)) ?_
  refine WL.op rfl (Op1.load ty24 (.tmp rfl)) ?_
  refine WL.op rfl (Op1.eqSt (D := 2) rfl (by decide) eg24 eq24 (.tmp rfl) (.tmp rfl)) ?_
  refine WL.gv rfl rfl ?_
  refine WL.ns ?_
  cases hm
  exact W.ret1 () rfl (.tmp rfl) trivial

theorem destinations_From_spec (n : Nat) (id : api_Id) (l : List api_Destination) (r : api_Id × Bool) (hm : M.destinations_From n id l = some r) : FSpec Tryd.prog 12 [(tapi_Id.is id), ((tL tapi_Destination).is l)] (Asn.tuple2 (tapi_Id.is r.1) (tB.is r.2)) := by
  unfold M.destinations_From at hm
  refine FSpec.of Tryd.func12 rfl rfl rfl (fun g0 => ?_)
  refine W.sr ?_
  refine WL.op rfl (Op1.box (.tmp rfl)) ?_
  refine WL.opR rfl (OpR.alloc 4 ze24) (fun b => ?_)
  refine WL.op rfl (Op1.assign .bool) ?_
  refine WL.nr ?_
  refine WL.mv rfl rfl ?_
  refine WL.op rfl (Op1.makeFunc (ok := (fun s : api_Destination × Bool => (fun s0 => M.destinations_From_1 s0 id) s.1 = some s.2)) (As := (fun s : api_Destination × Bool => [tapi_Destination.is s.1])) (A := (fun s : api_Destination × Bool => (tB.is s.2))) (Cs := [(tapi_Id.ptr id)]) (cap := [.tmp 2]) Tryd.call31 ⟨(.tmp rfl), trivial⟩ (fun s hs => destinations_From_1_spec _ _ _ hs)) ?_
  obtain ⟨found, hv1, hm⟩ := bind_some hm
  refine WL.op rfl (Op1.call Tryd.call29 (destinations_found_spec _ _ _ _ hv1) ⟨(.tmp rfl), (.tmp rfl), trivial⟩) ?_
  refine WL.mv rfl rfl ?_
  refine WL.op rfl (Op1.extract0 (.tmp rfl)) ?_
  refine WL.op rfl (Op1.extract1 (.tmp rfl)) ?_
  refine WL.opR rfl (OpR.alloc 6 ze36) (fun b1 => ?_)
  refine WL.opU (OpR.storeB (b := b1) 6 Tryd.sizeOf36 (Cellable.is tapi_Destination found.1) rfl (.tmp rfl) (.tmp rfl)) (fun _ => ?_)
  refine WL.sealed (t := tapi_Destination) (u := found.1) 6 6 rfl rfl ?_
  refine WL.gv rfl rfl ?_
  refine WL.nr ?_
  refine WL.op rfl (Op1.fieldAddr Tryd.underlying36 rfl (fun w => ⟨2, Tryd.sizeOf24 w⟩) fapi_Destination_0 (.tmp rfl)) ?_
  refine WL.op rfl (Op1.load ty24 (.tmp rfl)) ?_
  refine WL.mv rfl rfl ?_
  refine WL.opU (OpR.storeB (b := b) 4 Tryd.sizeOf24 (Cellable.is tapi_Id found.1.From) rfl (.tmp rfl) (.tmp rfl)) (fun _ => ?_)
  refine WL.gv rfl rfl ?_
  refine WL.ns ?_
  cases hm
  exact W.retQ2 () rfl rfl (ResAt.cell 4 Tryd.isAgg24 Tryd.sizeOf24 rfl (.tmp rfl)) (ResAt.tmp (.tmp rfl)) trivial

theorem internal_strconv_small_spec (i : Int) (r : Str) (hm : M.internal_strconv_small i = some r) : FSpec Tryd.prog 106 [((tI .i64).is i)] (tS.is r) := by
  unfold M.internal_strconv_small at hm
  refine FSpec.of Tryd.func106 rfl rfl rfl (fun g0 => ?_)
  refine W.sr ?_
  refine WL.op rfl (Op1.assign (.str rfl (by decide))) ?_
  refine WL.ns ?_
  refine W.seq ?_
  refine W.sr ?_
  refine WL.mv rfl rfl ?_
  refine WL.op rfl (Op1.ltI (.tmp rfl) (.int (inR64.2 (by omega)))) ?_
  refine WL.ns ?_
  refine W.cond (.tmp rfl) (fun hc1 => ?_) (fun hc1 => ?_)
  · have hp2 := of_decide_eq_true hc1
    rw [if_pos hp2] at hm
    refine W.sr ?_
    refine WL.mv rfl rfl ?_
    refine WL.mv rfl rfl ?_
    obtain ⟨v, hv3, hm⟩ := bind_some hm
    refine WL.op rfl (Op1.addC hv3 (.tmp rfl) (.int (inR64.2 (by omega)))) ?_
    obtain ⟨v1, hv4, hm⟩ := bind_some hm
    refine WL.op rfl (Op1.sslc hv4 Tryd.underlying9 (.str rfl (by decide)) (.tmp rfl) (.tmp rfl)) ?_
    refine WL.gv rfl rfl ?_
    refine WL.ns ?_
    cases hm
    exact W.ret1 () rfl (.tmp rfl) trivial
  · have hp2 := of_decide_eq_false hc1
    rw [if_neg hp2] at hm
    refine W.skip ?_
    refine WN.seq ?_
    refine W.sr ?_
    refine WL.mv rfl rfl ?_
    obtain ⟨v2, hv5, hm⟩ := bind_some hm
    refine WL.op rfl (Op1.mulC hv5 (.tmp rfl) (.int (inR64.2 (by omega)))) ?_
    refine WL.mv rfl rfl ?_
    obtain ⟨v3, hv6, hm⟩ := bind_some hm
    refine WL.op rfl (Op1.mulC hv6 (.tmp rfl) (.int (inR64.2 (by omega)))) ?_
    obtain ⟨v4, hv7, hm⟩ := bind_some hm
    refine WL.op rfl (Op1.addC hv7 (.tmp rfl) (.int (inR64.2 (by omega)))) ?_
    obtain ⟨v5, hv8, hm⟩ := bind_some hm
    refine WL.op rfl (Op1.sslc hv8 Tryd.underlying9 (.str rfl (by decide)) (.tmp rfl) (.tmp rfl)) ?_
    refine WL.gv rfl rfl ?_
    refine WL.ns ?_
    cases hm
    exact W.ret1 () rfl (.tmp rfl) trivial

theorem internal_strconv_FormatInt_spec (i : Int) (base : Int) (r : Str) (hm : M.internal_strconv_FormatInt i base = some r) : FSpec Tryd.prog 101 [((tI .i64).is i), ((tI .i64).is base)] (tS.is r) := by
  unfold M.internal_strconv_FormatInt at hm
  refine FSpec.of Tryd.func101 rfl rfl rfl (fun g0 => ?_)
  refine W.sr ?_
  refine WL.op rfl (Op1.assign (.str rfl (by decide))) ?_
  refine WL.ns ?_
  refine W.seq ?_
  refine W.sr ?_
  refine WL.mv rfl rfl ?_
  refine WL.op rfl (Op1.eqI (.tmp rfl) (.int (inR64.2 (by omega)))) ?_
  refine WL.ns ?_
  refine W.cond (.tmp rfl) (fun hc1 => ?_) (fun hc1 => ?_)
  · have hp2 := of_decide_eq_true hc1
    rw [if_pos hp2] at hm
    refine W.seq ?_
    obtain ⟨s3, hs4, hk5⟩ := bind_some hm
    clear hm
    refine W.join (fun s : Bool => s = s3) (fun s => [(17, (tB.is s)), (0, ((tI .i64).is i))]) (fun s => []) ?_ ?_
    · rintro v hj11
      try dsimp only at hj11
      subst hj11
      have hm := hk5
      clear hk5
      try dsimp only at hm
      change W _ _ _ _ _ _ _ [(17, (tB.is v)), (0, ((tI .i64).is i))] []
      refine W.cond (.tmp rfl) (fun hc8 => ?_) (fun hc8 => ?_)
      · have hp9 := hc8
        rw [if_pos hp9] at hm
        refine W.sr ?_
        refine WL.mv rfl rfl ?_
        obtain ⟨small, hv10, hm⟩ := bind_some hm
        refine WL.op rfl (Op1.call Tryd.call106 (internal_strconv_small_spec _ _ hv10) ⟨(.tmp rfl), trivial⟩) ?_
        refine WL.gv rfl rfl ?_
        refine WL.ns ?_
        cases hm
        exact W.ret1 () rfl (.tmp rfl) trivial
      · have hp9 := ne_of_false hc8
        rw [if_neg hp9] at hm
        cases hm
    · have hm := hs4
      clear hs4
      refine W.region ?_
      refine WL.mv rfl rfl ?_
      refine WL.op rfl (Op1.leI (.int (inR64.2 (by omega))) (.tmp rfl)) ?_
      refine WL.mv rfl rfl ?_
      rcases bcases (decide ((0 : Int) ≤ i)) with hb6 | hb6
      · have hp7 := of_decide_eq_true hb6
        rw [if_pos hp7] at hm
        refine WL.run rfl rfl rfl rfl hb6 rfl rfl (Op1.move (.tmp rfl)) ?_
        refine WL.run rfl rfl rfl rfl hb6 rfl rfl (Op1.ltI (.tmp rfl) (.int (inR64.2 (by omega)))) ?_
        refine WL.op rfl (Op1.pickT (.tmp rfl) hb6 (.tmp rfl)) ?_
        refine WL.nil ?_
        exact WN.meet (decide (i < (100 : Int))) (Option.some.inj hm) ⟨Ent.q rfl, Ent.q rfl, trivial⟩ trivial
      · have hp7 := of_decide_eq_false hb6
        rw [if_neg hp7] at hm
        refine WL.pass rfl rfl rfl rfl hb6 rfl rfl ?_
        refine WL.pass rfl rfl rfl rfl hb6 rfl rfl ?_
        refine WL.op rfl (Op1.pickF (.tmp rfl) hb6 .bool) ?_
        refine WL.nil ?_
        exact WN.meet false (Option.some.inj hm) ⟨Ent.q rfl, Ent.q rfl, trivial⟩ trivial
  · have hp2 := of_decide_eq_false hc1
    rw [if_neg hp2] at hm
    cases hm

theorem internal_strconv_Itoa_spec (i : Int) (r : Str) (hm : M.internal_strconv_Itoa i = some r) : FSpec Tryd.prog 89 [((tI .i64).is i)] (tS.is r) := by
  unfold M.internal_strconv_Itoa at hm
  refine FSpec.of Tryd.func89 rfl rfl rfl (fun g0 => ?_)
  refine W.sr ?_
  refine WL.op rfl (Op1.assign (.str rfl (by decide))) ?_
  refine WL.nr ?_
  refine WL.mv rfl rfl ?_
  obtain ⟨format, hv1, hm⟩ := bind_some hm
  refine WL.op rfl (Op1.call Tryd.call101 (internal_strconv_FormatInt_spec _ _ _ hv1) ⟨(.tmp rfl), (.int (inR64.2 (by omega))), trivial⟩) ?_
  refine WL.gv rfl rfl ?_
  refine WL.ns ?_
  cases hm
  exact W.ret1 () rfl (.tmp rfl) trivial

theorem strconv_Itoa_spec (i : Int) (r : Str) (hm : M.strconv_Itoa i = some r) : FSpec Tryd.prog 70 [((tI .i64).is i)] (tS.is r) := by
  unfold M.strconv_Itoa at hm
  refine FSpec.of Tryd.func70 rfl rfl rfl (fun g0 => ?_)
  refine W.sr ?_
  refine WL.op rfl (Op1.assign (.str rfl (by decide))) ?_
  refine WL.nr ?_
  refine WL.mv rfl rfl ?_
  obtain ⟨itoa, hv1, hm⟩ := bind_some hm
  refine WL.op rfl (Op1.call Tryd.call89 (internal_strconv_Itoa_spec _ _ hv1) ⟨(.tmp rfl), trivial⟩) ?_
  refine WL.gv rfl rfl ?_
  refine WL.ns ?_
  cases hm
  exact W.ret1 () rfl (.tmp rfl) trivial

theorem destinations_three_spec (id : api_Id) (r : Str) (hm : M.destinations_three id = some r) : FSpec Tryd.prog 60 [(tapi_Id.is id)] (tS.is r) := by
  unfold M.destinations_three at hm
  refine FSpec.of Tryd.func60 rfl rfl rfl (fun g0 => ?_)
  refine W.sr ?_
  refine WL.op rfl (Op1.box (.tmp rfl)) ?_
  refine WL.op rfl (Op1.assign (.str rfl (by decide))) ?_
  refine WL.ns ?_
  refine W.seq ?_
  obtain ⟨itoa, hv1, hm⟩ := bind_some hm
  obtain ⟨v, hv2, hm⟩ := bind_some hm
  obtain ⟨itoa1, hv3, hm⟩ := bind_some hm
  obtain ⟨v1, hv4, hm⟩ := bind_some hm
  obtain ⟨v2, hv5, hm⟩ := bind_some hm
  obtain ⟨itoa2, hv6, hm⟩ := bind_some hm
  obtain ⟨v3, hv7, hm⟩ := bind_some hm
  refine W.draw [.c ((tI .i64).ptr id.Act), .c ((tI .i64).is id.Act), .c (tS.is itoa), .c (tS.is v), .c ((tI .i64).ptr id.Item), .c ((tI .i64).is id.Item), .c (tS.is itoa1), .c (tS.is v1), .c (tS.is v2), .c ((tI .i64).ptr id.N), .c ((tI .i64).is id.N), .c (tS.is itoa2), .c (tS.is v3), .c (tS.is v3)] [([], [1]), ([0], []), ([1], []), ([2], []), ([], [1]), ([4], []), ([5], []), ([3, 6], []), ([7], []), ([], [1]), ([9], []), ([10], []), ([8, 11], []), ([12], [])] Tryd.mixed rfl rfl rfl rfl ⟨.inr (Op1.fieldAddr Tryd.underlying24 rfl (fun w => ⟨0, Tryd.sizeOf3 w⟩) fapi_Id_0 (.tmp rfl)), .inr (Op1.load ty3 (.tmp rfl)), .inr (Op1.call Tryd.call70 (strconv_Itoa_spec _ _ hv1) ⟨(.tmp rfl), trivial⟩), .inr (Op1.catC hv2 (.tmp rfl) (.str rfl (by decide))), .inr (Op1.fieldAddr Tryd.underlying24 rfl (fun w => ⟨0, Tryd.sizeOf3 w⟩) fapi_Id_1 (.tmp rfl)), .inr (Op1.load ty3 (.tmp rfl)), .inr (Op1.call Tryd.call70 (strconv_Itoa_spec _ _ hv3) ⟨(.tmp rfl), trivial⟩), .inr (Op1.catC hv4 (.tmp rfl) (.tmp rfl)), .inr (Op1.catC hv5 (.tmp rfl) (.str rfl (by decide))), .inr (Op1.fieldAddr Tryd.underlying24 rfl (fun w => ⟨0, Tryd.sizeOf3 w⟩) fapi_Id_2 (.tmp rfl)), .inr (Op1.load ty3 (.tmp rfl)), .inr (Op1.call Tryd.call70 (strconv_Itoa_spec _ _ hv6) ⟨(.tmp rfl), trivial⟩), .inr (Op1.catC hv7 (.tmp rfl) (.tmp rfl)), .inr (Op1.assign (.tmp rfl)), trivial⟩ ?_
  refine WN.seq ?_
  cases hm
  exact W.ret1 () rfl (.tmp rfl) trivial

theorem destinations_line_spec (d : api_Destination) (r : Str) (hm : M.destinations_line d = some r) : FSpec Tryd.prog 41 [(tapi_Destination.is d)] (tS.is r) := by
  unfold M.destinations_line at hm
  refine FSpec.of Tryd.func41 rfl rfl rfl (fun g0 => ?_)
  refine W.sr ?_
  refine WL.op rfl (Op1.box (.tmp rfl)) ?_
  refine WL.op rfl (Op1.assign (.str rfl (by decide))) ?_
  refine WL.ns ?_
  refine W.seq ?_
  obtain ⟨three, hv1, hm⟩ := bind_some hm
  obtain ⟨v, hv2, hm⟩ := bind_some hm
  obtain ⟨three1, hv3, hm⟩ := bind_some hm
  obtain ⟨v1, hv4, hm⟩ := bind_some hm
  refine W.draw [.c (tapi_Id.ptr d.From), .c (tapi_Id.is d.From), .c (tS.is three), .c (tS.is v), .c (tapi_Id.ptr d.To), .c (tapi_Id.is d.To), .c (tS.is three1), .c (tS.is v1), .c (tS.is v1)] [([], [1]), ([0], []), ([1], []), ([2], []), ([], [1]), ([4], []), ([5], []), ([3, 6], []), ([7], [])] Tryd.mixed rfl rfl rfl rfl ⟨.inr (Op1.fieldAddr Tryd.underlying36 rfl (fun w => ⟨2, Tryd.sizeOf24 w⟩) fapi_Destination_0 (.tmp rfl)), .inr (Op1.load ty24 (.tmp rfl)), .inr (Op1.call Tryd.call60 (destinations_three_spec _ _ hv1) ⟨(.tmp rfl), trivial⟩), .inr (Op1.catC hv2 (.tmp rfl) (.str rfl (by decide))), .inr (Op1.fieldAddr Tryd.underlying36 rfl (fun w => ⟨2, Tryd.sizeOf24 w⟩) fapi_Destination_1 (.tmp rfl)), .inr (Op1.load ty24 (.tmp rfl)), .inr (Op1.call Tryd.call60 (destinations_three_spec _ _ hv3) ⟨(.tmp rfl), trivial⟩), .inr (Op1.catC hv4 (.tmp rfl) (.tmp rfl)), .inr (Op1.assign (.tmp rfl)), trivial⟩ ?_
  refine WN.seq ?_
  cases hm
  exact W.ret1 () rfl (.tmp rfl) trivial

theorem strings_Builder_WriteString_spec (l m r : Str) (k : Tok) (b : Nat) (hm : appC l m = some r) : FSpecR Tryd.prog 40 [Bp b 0, tS.is m] [(0, Bx 2 true 74 (bldA k l b) b), (1, Own (tI .u8) 5 k l.length)] (fun _ : Tok => Asn.any) (fun kx => [(0, Bx 2 true 74 (bldA kx r b) b), (1, Own (tI .u8) 5 kx r.length)]) := by
  refine FSpecR.of Tryd.func40 rfl rfl rfl (fun g0 => ?_)
  refine W.sr ?_
  refine WL.op rfl (Op1.assign Opd.const) ?_
  refine WL.op rfl (Op1.assign Opd.const) ?_
  refine WL.nr ?_
  refine WL.mv rfl rfl ?_
  refine WL.opR rfl (OpR.call (us := [0]) Tryd.call59 (FSpecR.bldCheck bld_used bld_fresh 0 k l b) rfl ⟨(.tmp rfl), trivial⟩) (fun _ => ?_)
  refine WL.nr ?_
  refine WL.mv rfl rfl ?_
  refine WL.mv rfl rfl ?_
  refine WL.op rfl (Op1.nilCheckB (.tmp rfl)) ?_
  refine WL.op rfl (Op1.fieldAddrB (o := 0) Tryd.underlying74 rfl (fun w => ⟨0, Tryd.sizeOf72 w⟩) (.tmp rfl) rfl) ?_
  refine WL.op rfl (Op1.loadBld 0 Tryd.isAgg72 Tryd.sizeOf72 rfl (.tmp rfl)) ?_
  refine WL.mv rfl rfl ?_
  refine WL.opR rfl (OpR.appendS (key := 1) hm Tryd.underlying72 Tryd.underlying9 el5 (.tmp rfl) (.tmp rfl) rfl) (fun k2 => ?_)
  refine WL.op rfl (Op1.nilCheckB (.tmp rfl)) ?_
  refine WL.op rfl (Op1.fieldAddrB (o := 0) Tryd.underlying74 rfl (fun w => ⟨0, Tryd.sizeOf72 w⟩) (.tmp rfl) rfl) ?_
  refine WL.opU (OpR.storeBld (b := b) 0 Tryd.sizeOf72 rfl (.tmp rfl) (.tmp rfl)) (fun _ => ?_)
  refine WL.nr ?_
  refine WL.mv rfl rfl ?_
  refine WL.op rfl (Op1.lenS Tryd.underlying9 (.tmp rfl)) ?_
  refine WL.gv rfl rfl ?_
  refine WL.op rfl (Op1.assign Opd.const) ?_
  refine WL.nil ?_
  refine WN.seq ?_
  refine W.boxV (A' := bldA k2 r b) 0 rfl (fun _ _ => bldU_A) ?_
  exact W.retAny2 k2 rfl rfl ⟨rfl, rfl, rfl, rfl, trivial⟩

theorem strings_Builder_String_spec (k : Tok) (l : Str) (b : Nat) : FSpecR Tryd.prog 42 [Bp b 0] [(0, Bx 2 true 74 (bldA k l b) b), (1, Own (tI .u8) 5 k l.length)] (fun _ : Unit => tS.is l) (fun _ => []) :=
  FSpecR.bldString Tryd.underlying96 (by kernel_rfl) bld_str 0 1 k l b

theorem destinations_Format_spec (l : List api_Destination) (r : Str) (hm : M.destinations_Format l = some r) : FSpec Tryd.prog 27 [((tL tapi_Destination).is l)] (tS.is r) := by
  unfold M.destinations_Format at hm
  refine FSpec.of Tryd.func27 rfl rfl rfl (fun g0 => ?_)
  refine W.sr ?_
  refine WL.op rfl (Op1.assign (.str rfl (by decide))) ?_
  refine WL.nr ?_
  refine WL.addNil (t := (tI .u8)) (E := 5) 1000003 ?_
  refine WL.opR rfl (OpR.allocBld 3 Tryd.zeroValue74) (fun b => ?_)
  refine WL.ns ?_
  refine W.seq ?_
  refine W.sr ?_
  refine WL.mv rfl rfl ?_
  refine WL.op rfl (Op1.lenL Tryd.underlying22 (.tmp rfl)) ?_
  refine WL.op rfl (Op1.move (.int (inR64.2 (by omega)))) ?_
  refine WL.ns ?_
  refine W.block ?_
  obtain ⟨s1, hs2, hk3⟩ := bind_some hm
  clear hm
  refine W.loop (fun m (s : Int × List api_Destination × List api_Destination × ((Str) × Tok)) => m = s.2.2.1.length ∧ l = s.2.1 ++ s.2.2.1 ∧ s.1 = (s.2.1.length : Int) ∧ M.destinations_Format_loop1 s.2.2.1 s.2.2.2.1 = some s1) (fun s => [(8, ((tI .i64).is s.1)), (3, (Bp b 0)), (6, ((tL tapi_Destination).is l)), (7, ((tI .i64).is (l.length : Int)))]) (fun s => [(1000003, Own (tI .u8) 5 s.2.2.2.2 s.2.2.2.1.length), (3, (Bx 2 true 74 (bldA s.2.2.2.2 s.2.2.2.1 b) b))]) l.length ((0 : Int), [], l, (([] : Str), (none : Tok))) ⟨rfl, rfl, rfl, hs2⟩ ⟨Ent.q rfl, Ent.q rfl, Ent.q rfl, Ent.q rfl, trivial⟩ ⟨rfl, rfl, ⟨rfl, rfl, trivial⟩⟩ ?_
  rintro m ⟨i, pre, rest1, ⟨out, k⟩⟩ ⟨hn7, hxs4, hi5, hm⟩
  try dsimp only at hn7 hxs4 hi5 hm
  change W _ _ _ _ _ _ _ [(8, ((tI .i64).is i)), (3, (Bp b 0)), (6, ((tL tapi_Destination).is l)), (7, ((tI .i64).is (l.length : Int)))] [(1000003, Own (tI .u8) 5 k out.length), (3, (Bx 2 true 74 (bldA k out b) b))]
  refine W.lenL (s := 6) (.tmp rfl) fun hlen6 => ?_
  refine W.sr ?_
  refine WL.op rfl (Op1.ltI (.tmp rfl) (.tmp rfl)) ?_
  refine WL.ns ?_
  refine W.seq ?_
  refine W.cond (.tmp rfl) (fun hc9 => ?_) (fun hc9 => ?_)
  · have hp10 := of_decide_eq_true hc9
    obtain ⟨e, es, hrest12⟩ := range_more hxs4 hi5 hp10
    subst hrest12
    rw [M.destinations_Format_loop1.eq_2] at hm
    refine W.skip ?_
    refine WN.seq ?_
    refine W.seq ?_
    refine W.block ?_
    refine W.sr ?_
    refine WL.op rfl (Op1.idxPre hxs4 hi5 Tryd.underlying22 Tryd.sizeOf36 (.tmp rfl) (.tmp rfl)) ?_
    refine WL.op rfl (Op1.load ty36 (.tmp rfl)) ?_
    refine WL.opR rfl (OpR.alloc 5 ze36) (fun b1 => ?_)
    refine WL.opU (OpR.storeB (b := b1) 5 Tryd.sizeOf36 (Cellable.is tapi_Destination e) rfl (.tmp rfl) (.tmp rfl)) (fun _ => ?_)
    refine WL.sealed (t := tapi_Destination) (u := e) 5 5 rfl rfl ?_
    refine WL.nr1 ?_
    refine WL.op rfl (Op1.load ty36 (.tmp rfl)) ?_
    obtain ⟨line, hv13, hm⟩ := bind_some hm
    refine WL.op rfl (Op1.call Tryd.call41 (destinations_line_spec _ _ hv13) ⟨(.tmp rfl), trivial⟩) ?_
    obtain ⟨v, hv14, hm⟩ := bind_some hm
    refine WL.op rfl (Op1.catC hv14 (.tmp rfl) (.str rfl (by decide))) ?_
    obtain ⟨out1, hv15, hm⟩ := bind_some hm
    refine WL.weakR (res' := [(3, (Bx 2 true 74 (bldA k out b) b)), (1000003, Own (tI .u8) 5 k out.length)]) ⟨rfl, rfl, ⟨rfl, rfl, trivial⟩⟩ ?_
    refine WL.opR rfl (OpR.call (us := [3, 1000003]) (A := fun kx : Tok => Asn.any) Tryd.call40 (FSpecR.keys (rin' := [(3, (Bx 2 true 74 (bldA k out b) b)), (1000003, Own (tI .u8) 5 k out.length)]) (out' := fun kx : Tok => [(3, (Bx 2 true 74 (bldA kx out1 b) b)), (1000003, Own (tI .u8) 5 kx out1.length)]) (strings_Builder_WriteString_spec _ _ _ _ _ hv15) rfl (fun _ => rfl)) rfl ⟨(.tmp rfl), (.tmp rfl), trivial⟩) (fun k1 => ?_)
    refine WL.nil ?_
    refine WN.block ?_
    refine WN.seq ?_
    refine W.region ?_
    refine WL.op rfl (Op1.addI (.tmp rfl) (.int (inR64.2 (by omega))) (range_inR hi5 hp10 hlen6)) ?_
    refine WL.mv rfl rfl ?_
    refine WL.nil ?_
    exact WN.again es.length (i + 1, pre ++ [e], es, (out1, k1)) (range_lt hn7) ⟨rfl, range_step hxs4, range_idx hi5, hm⟩ ⟨Ent.q rfl, Ent.q rfl, Ent.q rfl, Ent.q rfl, trivial⟩ ⟨rfl, rfl, ⟨rfl, rfl, trivial⟩⟩
  · have hrest12 := range_end hxs4 hi5 (of_decide_eq_false hc9)
    subst hrest12
    rw [M.destinations_Format_loop1.eq_1] at hm
    refine W.exit rfl ?_
    have hr16 := Option.some.inj hm
    clear hm
    subst hr16
    have hm := hk3
    try dsimp only at hm
    refine WN.seq ?_
    refine W.sr ?_
    refine WL.weakR (res' := [(3, (Bx 2 true 74 (bldA k out b) b)), (1000003, Own (tI .u8) 5 k out.length)]) ⟨rfl, rfl, ⟨rfl, rfl, trivial⟩⟩ ?_
    refine WL.opR rfl (OpR.call (us := [3, 1000003]) (A := fun kx : Unit => tS.is out) Tryd.call42 (FSpecR.keys (rin' := [(3, (Bx 2 true 74 (bldA k out b) b)), (1000003, Own (tI .u8) 5 k out.length)]) (out' := fun kx : Unit => []) (strings_Builder_String_spec _ _ _) rfl (fun _ => rfl)) rfl ⟨(.tmp rfl), trivial⟩) (fun _ => ?_)
    refine WL.gv rfl rfl ?_
    refine WL.ns ?_
    cases hm
    exact W.ret1 () rfl (.tmp rfl) trivial

theorem law47_awake_spec (n : Nat)  (r : Bool) (hm : M.law47_awake n  = some r) : FSpec Tryd.prog 10 [] (tB.is r) := by
  unfold M.law47_awake at hm
  refine FSpec.of Tryd.func10 rfl rfl rfl (fun g0 => ?_)
  refine W.sr ?_
  refine WL.op rfl (Op1.assign .bool) ?_
  refine WL.nr ?_
  refine WL.op rfl (Op1.build (s := tapi_Id) (x := (⟨(1 : Int), (0 : Int), (3 : Int)⟩ : api_Id)) zapi_Id_f rfl Tryd.underlying24 (zapi_Id_sz _ Tryd.underlying24) ze24 ⟨_, (tI .i64), (1 : Int), _, _, rfl, Tryd.sizeOf3, (.int (inR64.2 (by omega))), sapi_Id_0, ⟨_, (tI .i64), (3 : Int), _, _, rfl, Tryd.sizeOf3, (.int (inR64.2 (by omega))), sapi_Id_2, rfl⟩⟩) ?_
  refine WL.op rfl (Op1.build (s := tapi_Id) (x := (⟨(9 : Int), (0 : Int), (7 : Int)⟩ : api_Id)) zapi_Id_f rfl Tryd.underlying24 (zapi_Id_sz _ Tryd.underlying24) ze24 ⟨_, (tI .i64), (9 : Int), _, _, rfl, Tryd.sizeOf3, (.int (inR64.2 (by omega))), sapi_Id_0, ⟨_, (tI .i64), (7 : Int), _, _, rfl, Tryd.sizeOf3, (.int (inR64.2 (by omega))), sapi_Id_2, rfl⟩⟩) ?_
  refine WL.op rfl (Op1.build (s := tapi_Destination) (x := (⟨(⟨(1 : Int), (0 : Int), (3 : Int)⟩ : api_Id), (⟨(9 : Int), (0 : Int), (7 : Int)⟩ : api_Id)⟩ : api_Destination)) zapi_Destination_f rfl Tryd.underlying36 (zapi_Destination_sz _ Tryd.underlying36) ze36 ⟨_, tapi_Id, (⟨(1 : Int), (0 : Int), (3 : Int)⟩ : api_Id), _, _, rfl, Tryd.sizeOf24, (.tmp rfl), sapi_Destination_0, ⟨_, tapi_Id, (⟨(9 : Int), (0 : Int), (7 : Int)⟩ : api_Id), _, _, rfl, Tryd.sizeOf24, (.tmp rfl), sapi_Destination_1, rfl⟩⟩) ?_
  refine WL.opR rfl (OpR.alloc 1 ze36) (fun b => ?_)
  refine WL.opU (OpR.storeB (b := b) 1 Tryd.sizeOf36 (Cellable.is tapi_Destination (⟨(⟨(1 : Int), (0 : Int), (3 : Int)⟩ : api_Id), (⟨(9 : Int), (0 : Int), (7 : Int)⟩ : api_Id)⟩ : api_Destination)) rfl (.tmp rfl) (.tmp rfl)) (fun _ => ?_)
  refine WL.sealed (t := tapi_Destination) (u := (⟨(⟨(1 : Int), (0 : Int), (3 : Int)⟩ : api_Id), (⟨(9 : Int), (0 : Int), (7 : Int)⟩ : api_Id)⟩ : api_Destination)) 1 1 rfl rfl ?_
  refine WL.nr ?_
  refine WL.op rfl (Op1.fieldAddr Tryd.underlying36 rfl (fun w => ⟨2, Tryd.sizeOf24 w⟩) fapi_Destination_0 (.tmp rfl)) ?_
  refine WL.op rfl (Op1.load ty24 (.tmp rfl)) ?_
  refine WL.op rfl (Op1.load ty36 (.tmp rfl)) ?_
  refine WL.op rfl (Op1.buildSlice (n := 1) (ys := [(0, (⟨(⟨(1 : Int), (0 : Int), (3 : Int)⟩ : api_Id), (⟨(9 : Int), (0 : Int), (7 : Int)⟩ : api_Id)⟩ : api_Destination))]) (z := zapi_Destination) (xs := [(⟨(⟨(1 : Int), (0 : Int), (3 : Int)⟩ : api_Id), (⟨(9 : Int), (0 : Int), (7 : Int)⟩ : api_Id)⟩ : api_Destination)]) Tryd.underlying22 el36 ze36 ⟨rfl, (.tmp rfl), trivial⟩ (by simp) (by decide) rfl) ?_
  obtain ⟨to, hv1, hm⟩ := bind_some hm
  refine WL.op rfl (Op1.call Tryd.call11 (destinations_To_spec _ _ _ _ hv1) ⟨(.tmp rfl), (.tmp rfl), trivial⟩) ?_
  refine WL.mv rfl rfl ?_
  refine WL.op rfl (Op1.extract0 (.tmp rfl)) ?_
  refine WL.op rfl (Op1.extract1 (.tmp rfl)) ?_
  refine WL.opR rfl (OpR.alloc 2 ze24) (fun b1 => ?_)
  refine WL.opU (OpR.storeB (b := b1) 2 Tryd.sizeOf24 (Cellable.is tapi_Id to.1) rfl (.tmp rfl) (.tmp rfl)) (fun _ => ?_)
  refine WL.sealed (t := tapi_Id) (u := to.1) 2 2 rfl rfl ?_
  refine WL.gv rfl rfl ?_
  refine WL.nr ?_
  refine WL.op rfl (Op1.fieldAddr Tryd.underlying36 rfl (fun w => ⟨2, Tryd.sizeOf24 w⟩) fapi_Destination_1 (.tmp rfl)) ?_
  refine WL.op rfl (Op1.load ty24 (.tmp rfl)) ?_
  refine WL.op rfl (Op1.load ty36 (.tmp rfl)) ?_
  refine WL.op rfl (Op1.buildSlice (n := 1) (ys := [(0, (⟨(⟨(1 : Int), (0 : Int), (3 : Int)⟩ : api_Id), (⟨(9 : Int), (0 : Int), (7 : Int)⟩ : api_Id)⟩ : api_Destination))]) (z := zapi_Destination) (xs := [(⟨(⟨(1 : Int), (0 : Int), (3 : Int)⟩ : api_Id), (⟨(9 : Int), (0 : Int), (7 : Int)⟩ : api_Id)⟩ : api_Destination)]) Tryd.underlying22 el36 ze36 ⟨rfl, (.tmp rfl), trivial⟩ (by simp) (by decide) rfl) ?_
  obtain ⟨from0_, hv2, hm⟩ := bind_some hm
  refine WL.op rfl (Op1.call Tryd.call12 (destinations_From_spec _ _ _ _ hv2) ⟨(.tmp rfl), (.tmp rfl), trivial⟩) ?_
  refine WL.mv rfl rfl ?_
  refine WL.op rfl (Op1.extract0 (.tmp rfl)) ?_
  refine WL.op rfl (Op1.extract1 (.tmp rfl)) ?_
  refine WL.opR rfl (OpR.alloc 4 ze24) (fun b2 => ?_)
  refine WL.opU (OpR.storeB (b := b2) 4 Tryd.sizeOf24 (Cellable.is tapi_Id from0_.1) rfl (.tmp rfl) (.tmp rfl)) (fun _ => ?_)
  refine WL.sealed (t := tapi_Id) (u := from0_.1) 4 4 rfl rfl ?_
  refine WL.gv rfl rfl ?_
  refine WL.nr ?_
  refine WL.mv rfl rfl ?_
  refine WL.mv rfl rfl ?_
  rcases bcases (to.2) with hb3 | hb3
  · have hp4 := hb3
    rw [if_pos hp4] at hm
    refine WL.run rfl rfl rfl rfl hb3 rfl rfl (Op1.move (.tmp rfl)) ?_
    refine WL.op rfl (Op1.pickT (.tmp rfl) hb3 (.tmp rfl)) ?_
    refine WL.mv rfl rfl ?_
    rcases bcases (from0_.2) with hb5 | hb5
    · have hp6 := hb5
      rw [if_pos hp6] at hm
      refine WL.run rfl rfl rfl rfl hb5 rfl rfl (Op1.load ty24 (.tmp rfl)) ?_
      refine WL.run rfl rfl rfl rfl hb5 rfl rfl (Op1.fieldAddr Tryd.underlying36 rfl (fun w => ⟨2, Tryd.sizeOf24 w⟩) fapi_Destination_1 (.tmp rfl)) ?_
      refine WL.run rfl rfl rfl rfl hb5 rfl rfl (Op1.load ty24 (.tmp rfl)) ?_
      refine WL.run rfl rfl rfl rfl hb5 rfl rfl (Op1.eqSt (D := 2) rfl (by decide) eg24 eq24 (.tmp rfl) (.tmp rfl)) ?_
      refine WL.op rfl (Op1.pickT (.tmp rfl) hb5 (.tmp rfl)) ?_
      refine WL.mv rfl rfl ?_
      rcases bcases (decide (to.1 = ((⟨(⟨(1 : Int), (0 : Int), (3 : Int)⟩ : api_Id), (⟨(9 : Int), (0 : Int), (7 : Int)⟩ : api_Id)⟩ : api_Destination).To))) with hb7 | hb7
      · have hp8 := of_decide_eq_true hb7
        rw [if_pos hp8] at hm
        refine WL.run rfl rfl rfl rfl hb7 rfl rfl (Op1.load ty24 (.tmp rfl)) ?_
        refine WL.run rfl rfl rfl rfl hb7 rfl rfl (Op1.fieldAddr Tryd.underlying36 rfl (fun w => ⟨2, Tryd.sizeOf24 w⟩) fapi_Destination_0 (.tmp rfl)) ?_
        refine WL.run rfl rfl rfl rfl hb7 rfl rfl (Op1.load ty24 (.tmp rfl)) ?_
        refine WL.run rfl rfl rfl rfl hb7 rfl rfl (Op1.eqSt (D := 2) rfl (by decide) eg24 eq24 (.tmp rfl) (.tmp rfl)) ?_
        refine WL.op rfl (Op1.pickT (.tmp rfl) hb7 (.tmp rfl)) ?_
        refine WL.mv rfl rfl ?_
        rcases bcases (decide (from0_.1 = ((⟨(⟨(1 : Int), (0 : Int), (3 : Int)⟩ : api_Id), (⟨(9 : Int), (0 : Int), (7 : Int)⟩ : api_Id)⟩ : api_Destination).From))) with hb9 | hb9
        · have hp10 := of_decide_eq_true hb9
          rw [if_pos hp10] at hm
          refine WL.run rfl rfl rfl rfl hb9 rfl rfl (Op1.load ty36 (.tmp rfl)) ?_
          refine WL.run rfl rfl rfl rfl hb9 rfl rfl (Op1.buildSlice (n := 1) (ys := [(0, (⟨(⟨(1 : Int), (0 : Int), (3 : Int)⟩ : api_Id), (⟨(9 : Int), (0 : Int), (7 : Int)⟩ : api_Id)⟩ : api_Destination))]) (z := zapi_Destination) (xs := [(⟨(⟨(1 : Int), (0 : Int), (3 : Int)⟩ : api_Id), (⟨(9 : Int), (0 : Int), (7 : Int)⟩ : api_Id)⟩ : api_Destination)]) Tryd.underlying22 el36 ze36 ⟨rfl, (.tmp rfl), trivial⟩ (by simp) (by decide) rfl) ?_
          obtain ⟨format, hv11, hm⟩ := bind_some hm
          refine WL.run rfl rfl rfl rfl hb9 rfl rfl (Op1.call Tryd.call27 (destinations_Format_spec _ _ hv11) ⟨(.tmp rfl), trivial⟩) ?_
          refine WL.run rfl rfl rfl rfl hb9 rfl rfl (Op1.eqS (.tmp rfl) (.str rfl (by decide))) ?_
          refine WL.op rfl (Op1.pickT (.tmp rfl) hb9 (.tmp rfl)) ?_
          refine WL.gv rfl rfl ?_
          refine WL.ns ?_
          cases hm
          exact W.ret1 () rfl (.tmp rfl) trivial
        · have hp10 := of_decide_eq_false hb9
          rw [if_neg hp10] at hm
          refine WL.pass rfl rfl rfl rfl hb9 rfl rfl ?_
          refine WL.pass rfl rfl rfl rfl hb9 rfl rfl ?_
          refine WL.pass rfl rfl rfl rfl hb9 rfl rfl ?_
          refine WL.pass rfl rfl rfl rfl hb9 rfl rfl ?_
          refine WL.op rfl (Op1.pickF (.tmp rfl) hb9 .bool) ?_
          refine WL.gv rfl rfl ?_
          refine WL.ns ?_
          cases hm
          exact W.ret1 () rfl (.tmp rfl) trivial
      · have hp8 := of_decide_eq_false hb7
        rw [if_neg hp8] at hm
        refine WL.pass rfl rfl rfl rfl hb7 rfl rfl ?_
        refine WL.pass rfl rfl rfl rfl hb7 rfl rfl ?_
        refine WL.pass rfl rfl rfl rfl hb7 rfl rfl ?_
        refine WL.pass rfl rfl rfl rfl hb7 rfl rfl ?_
        refine WL.op rfl (Op1.pickF (.tmp rfl) hb7 .bool) ?_
        refine WL.mv rfl rfl ?_
        refine WL.pass rfl rfl rfl rfl rfl rfl rfl ?_
        refine WL.pass rfl rfl rfl rfl rfl rfl rfl ?_
        refine WL.pass rfl rfl rfl rfl rfl rfl rfl ?_
        refine WL.pass rfl rfl rfl rfl rfl rfl rfl ?_
        refine WL.op rfl (Op1.pickF (.tmp rfl) rfl .bool) ?_
        refine WL.gv rfl rfl ?_
        refine WL.ns ?_
        cases hm
        exact W.ret1 () rfl (.tmp rfl) trivial
    · have hp6 := ne_of_false hb5
      rw [if_neg hp6] at hm
      refine WL.pass rfl rfl rfl rfl hb5 rfl rfl ?_
      refine WL.pass rfl rfl rfl rfl hb5 rfl rfl ?_
      refine WL.pass rfl rfl rfl rfl hb5 rfl rfl ?_
      refine WL.pass rfl rfl rfl rfl hb5 rfl rfl ?_
      refine WL.op rfl (Op1.pickF (.tmp rfl) hb5 .bool) ?_
      refine WL.mv rfl rfl ?_
      refine WL.pass rfl rfl rfl rfl rfl rfl rfl ?_
      refine WL.pass rfl rfl rfl rfl rfl rfl rfl ?_
      refine WL.pass rfl rfl rfl rfl rfl rfl rfl ?_
      refine WL.pass rfl rfl rfl rfl rfl rfl rfl ?_
      refine WL.op rfl (Op1.pickF (.tmp rfl) rfl .bool) ?_
      refine WL.mv rfl rfl ?_
      refine WL.pass rfl rfl rfl rfl rfl rfl rfl ?_
      refine WL.pass rfl rfl rfl rfl rfl rfl rfl ?_
      refine WL.pass rfl rfl rfl rfl rfl rfl rfl ?_
      refine WL.pass rfl rfl rfl rfl rfl rfl rfl ?_
      refine WL.op rfl (Op1.pickF (.tmp rfl) rfl .bool) ?_
      refine WL.gv rfl rfl ?_
      refine WL.ns ?_
      cases hm
      exact W.ret1 () rfl (.tmp rfl) trivial
  · have hp4 := ne_of_false hb3
    rw [if_neg hp4] at hm
    refine WL.pass rfl rfl rfl rfl hb3 rfl rfl ?_
    refine WL.op rfl (Op1.pickF (.tmp rfl) hb3 .bool) ?_
    refine WL.mv rfl rfl ?_
    refine WL.pass rfl rfl rfl rfl rfl rfl rfl ?_
    refine WL.pass rfl rfl rfl rfl rfl rfl rfl ?_
    refine WL.pass rfl rfl rfl rfl rfl rfl rfl ?_
    refine WL.pass rfl rfl rfl rfl rfl rfl rfl ?_
    refine WL.op rfl (Op1.pickF (.tmp rfl) rfl .bool) ?_
    refine WL.mv rfl rfl ?_
    refine WL.pass rfl rfl rfl rfl rfl rfl rfl ?_
    refine WL.pass rfl rfl rfl rfl rfl rfl rfl ?_
    refine WL.pass rfl rfl rfl rfl rfl rfl rfl ?_
    refine WL.pass rfl rfl rfl rfl rfl rfl rfl ?_
    refine WL.op rfl (Op1.pickF (.tmp rfl) rfl .bool) ?_
    refine WL.mv rfl rfl ?_
    refine WL.pass rfl rfl rfl rfl rfl rfl rfl ?_
    refine WL.pass rfl rfl rfl rfl rfl rfl rfl ?_
    refine WL.pass rfl rfl rfl rfl rfl rfl rfl ?_
    refine WL.pass rfl rfl rfl rfl rfl rfl rfl ?_
    refine WL.op rfl (Op1.pickF (.tmp rfl) rfl .bool) ?_
    refine WL.gv rfl rfl ?_
    refine WL.ns ?_
    cases hm
    exact W.ret1 () rfl (.tmp rfl) trivial

theorem r47_To_spec (n : Nat) (id : api_Id) (l : List api_Destination) (r : api_Id × Bool) (hm : M.r47_To n id l = some r) : FSpec Tryd.prog 13 [(tapi_Id.is id), ((tL tapi_Destination).is l)] (Asn.tuple2 (tapi_Id.is r.1) (tB.is r.2)) := by
  unfold M.r47_To at hm
  refine FSpec.of Tryd.func13 rfl rfl rfl (fun g0 => ?_)
  refine W.sr ?_
  refine WL.op rfl (Op1.box (.tmp rfl)) ?_
  refine WL.opR rfl (OpR.alloc 4 ze24) (fun b => ?_)
  refine WL.op rfl (Op1.assign .bool) ?_
  refine WL.ns ?_
  refine W.seq ?_
  refine W.sr ?_
  refine WL.op rfl (Op1.assign (.int (inR64.2 (by omega)))) ?_
  refine WL.ns ?_
  refine W.block ?_
  obtain ⟨s1, hs2, hk3⟩ := bind_some hm
  clear hm
  refine W.loop (fun m (s : Int × api_Id) => M.r47_To_loop1 id l m s.1 s.2 = some s1) (fun s => [(6, ((tI .i64).is s.1)), (1, ((tL tapi_Destination).is l)), (2, (tapi_Id.ptr id)), (4, (Bp b 0))]) (fun s => [(4, (Bx 3 true 24 (tapi_Id.is s.2) b))]) _ ((0 : Int), zapi_Id) hs2 ⟨Ent.q rfl, Ent.q rfl, Ent.q rfl, Ent.q rfl, trivial⟩ ⟨rfl, rfl, trivial⟩ ?_
  rintro n4 ⟨i, v⟩ hm
  try dsimp only at hm
  change W _ _ _ _ _ _ _ [(6, ((tI .i64).is i)), (1, ((tL tapi_Destination).is l)), (2, (tapi_Id.ptr id)), (4, (Bp b 0))] [(4, (Bx 3 true 24 (tapi_Id.is v) b))]
  cases n4 with
  | zero => rw [M.r47_To_loop1.eq_1] at hm; cases hm
  | succ n4 =>
    rw [M.r47_To_loop1.eq_2] at hm
    refine W.seq ?_
    refine W.sr ?_
    refine WL.mv rfl rfl ?_
    refine WL.mv rfl rfl ?_
    refine WL.op rfl (Op1.lenL Tryd.underlying22 (.tmp rfl)) ?_
    refine WL.op rfl (Op1.ltI (.tmp rfl) (.tmp rfl)) ?_
    refine WL.ns ?_
    refine W.cond (.tmp rfl) (fun hc5 => ?_) (fun hc5 => ?_)
    · have hp6 := of_decide_eq_true hc5
      rw [if_pos hp6] at hm
      refine W.skip ?_
      refine WN.seq ?_
      refine W.seq ?_
      refine W.block ?_
      refine W.seq ?_
      obtain ⟨v1, hv7, hm⟩ := bind_some hm
      refine W.draw [.c ((tL tapi_Destination).is l), .c ((tI .i64).is i), .c (tapi_Destination.ptr v1), .c (tapi_Id.ptr v1.From), .c (tapi_Id.is v1.From), .c (tapi_Id.is id), .c (tB.is (decide (v1.From = id)))] [([], [1]), ([], [6]), ([0, 1], []), ([2], []), ([3], []), ([], [2]), ([4, 5], [])] Tryd.mixed rfl rfl rfl rfl ⟨.inr (Op1.move (.tmp rfl)), .inr (Op1.move (.tmp rfl)), .inr (Op1.idx hv7 Tryd.underlying22 Tryd.sizeOf36 (.tmp rfl) (.tmp rfl)), .inr (Op1.fieldAddr Tryd.underlying36 rfl (fun w => ⟨2, Tryd.sizeOf24 w⟩) fapi_Destination_0 (.tmp rfl)), .inr (Op1.load ty24 (.tmp rfl)), .inr (Op1.load ty24 (.tmp rfl)), .inr (Op1.eqSt (D := 2) rfl (by decide) eg24 eq24 (.tmp rfl) (.tmp rfl)), trivial⟩ ?_
      refine WN.seq ?_
      refine W.cond (.tmp rfl) (fun hc8 => ?_) (fun hc8 => ?_)
      · have hp9 := of_decide_eq_true hc8
        rw [if_pos hp9] at hm
        refine W.sr ?_
        refine WL.mv rfl rfl ?_
        refine WL.mv rfl rfl ?_
        obtain ⟨v2, hv10, hm⟩ := bind_some hm
        refine WL.op rfl (Op1.idx hv10 Tryd.underlying22 Tryd.sizeOf36 (.tmp rfl) (.tmp rfl)) ?_
        refine WL.op rfl (Op1.fieldAddr Tryd.underlying36 rfl (fun w => ⟨2, Tryd.sizeOf24 w⟩) fapi_Destination_1 (.tmp rfl)) ?_
        refine WL.op rfl (Op1.load ty24 (.tmp rfl)) ?_
        refine WL.opU (OpR.storeB (b := b) 4 Tryd.sizeOf24 (Cellable.is tapi_Id v2.To) rfl (.tmp rfl) (.tmp rfl)) (fun _ => ?_)
        refine WL.op rfl (Op1.assign .bool) ?_
        refine WL.ns ?_
        have hr11 := Option.some.inj hm
        clear hm
        subst hr11
        have hm := hk3
        try dsimp only at hm
        cases hm
        exact W.retQ2 () rfl rfl (ResAt.cell 4 Tryd.isAgg24 Tryd.sizeOf24 rfl (.tmp rfl)) (ResAt.tmp (.tmp rfl)) trivial
      · have hp9 := of_decide_eq_false hc8
        rw [if_neg hp9] at hm
        refine W.skip ?_
        refine WN.block ?_
        refine WN.seq ?_
        refine W.region ?_
        refine WL.mv rfl rfl ?_
        refine WL.lenL (s := 1) (.tmp rfl) fun hl12 => ?_
        refine WL.op rfl (Op1.addI1 (.tmp rfl) (.int (inR64.2 (by omega))) hp6 hl12) ?_
        refine WL.gv rfl rfl ?_
        refine WL.nil ?_
        exact WN.again n4 (i + 1, v) (Nat.lt_succ_self n4) hm ⟨Ent.q rfl, Ent.q rfl, Ent.q rfl, Ent.q rfl, trivial⟩ ⟨rfl, rfl, trivial⟩
    · have hp6 := of_decide_eq_false hc5
      rw [if_neg hp6] at hm
      refine W.exit rfl ?_
      have hr13 := Option.some.inj hm
      clear hm
      subst hr13
      have hm := hk3
      try dsimp only at hm
      refine WN.seq ?_
      refine W.sr ?_
      refine WL.op rfl (Op1.build (s := tapi_Id) (x := (⟨(0 : Int), (0 : Int), (0 : Int)⟩ : api_Id)) zapi_Id_f rfl Tryd.underlying24 (zapi_Id_sz _ Tryd.underlying24) ze24 rfl) ?_
      refine WL.opU (OpR.storeB (b := b) 4 Tryd.sizeOf24 (Cellable.is tapi_Id (⟨(0 : Int), (0 : Int), (0 : Int)⟩ : api_Id)) rfl (.tmp rfl) (.tmp rfl)) (fun _ => ?_)
      refine WL.op rfl (Op1.assign .bool) ?_
      refine WL.ns ?_
      cases hm
      exact W.retQ2 () rfl rfl (ResAt.cell 4 Tryd.isAgg24 Tryd.sizeOf24 rfl (.tmp rfl)) (ResAt.tmp (.tmp rfl)) trivial

theorem r47_Back_spec (n : Nat) (l : List api_Destination) (r : (List api_Destination)) (hm : M.r47_Back n l = some r) : FSpec Tryd.prog 14 [((tL tapi_Destination).is l)] ((tL tapi_Destination).is r) := by
  unfold M.r47_Back at hm
  refine FSpec.of Tryd.func14 rfl rfl rfl (fun g0 => ?_)
  refine W.sr ?_
  refine WL.op rfl (Op1.assign (.nil (t := tapi_Destination))) ?_
  refine WL.nr ?_
  refine WL.opR rfl (OpR.buildSlice (n := 0) (ys := []) (z := zapi_Destination) (xs := ([] : List api_Destination)) 5 Tryd.underlying22 el36 ze36 trivial (by simp) (by decide) rfl) (fun k => ?_)
  refine WL.gv rfl rfl ?_
  refine WL.ns ?_
  refine W.seq ?_
  refine W.sr ?_
  refine WL.op rfl (Op1.assign (.int (inR64.2 (by omega)))) ?_
  refine WL.ns ?_
  refine W.block ?_
  obtain ⟨s1, hs2, hk3⟩ := bind_some hm
  clear hm
  refine W.loop (fun m (s : ((List api_Destination) × Int) × Tok) => M.r47_Back_loop1 l m s.1.1 s.1.2 = some s1) (fun s => [(3, (tO tapi_Destination s.2 s.1.1)), (4, ((tI .i64).is s.1.2)), (0, ((tL tapi_Destination).is l))]) (fun s => [(5, Own tapi_Destination 36 s.2 s.1.1.length)]) _ ((([] : List api_Destination), (0 : Int)), k) hs2 ⟨Ent.q rfl, Ent.q rfl, Ent.q rfl, trivial⟩ ⟨rfl, rfl, trivial⟩ ?_
  rintro n4 ⟨⟨out, i⟩, k1⟩ hm
  try dsimp only at hm
  change W _ _ _ _ _ _ _ [(3, (tO tapi_Destination k1 out)), (4, ((tI .i64).is i)), (0, ((tL tapi_Destination).is l))] [(5, Own tapi_Destination 36 k1 out.length)]
  cases n4 with
  | zero => rw [M.r47_Back_loop1.eq_1] at hm; cases hm
  | succ n4 =>
    rw [M.r47_Back_loop1.eq_2] at hm
    refine W.seq ?_
    refine W.sr ?_
    refine WL.mv rfl rfl ?_
    refine WL.mv rfl rfl ?_
    refine WL.op rfl (Op1.lenL Tryd.underlying22 (.tmp rfl)) ?_
    refine WL.op rfl (Op1.ltI (.tmp rfl) (.tmp rfl)) ?_
    refine WL.ns ?_
    refine W.cond (.tmp rfl) (fun hc5 => ?_) (fun hc5 => ?_)
    · have hp6 := of_decide_eq_true hc5
      rw [if_pos hp6] at hm
      refine W.skip ?_
      refine WN.seq ?_
      refine W.seq ?_
      refine W.block ?_
      obtain ⟨v, hv7, hm⟩ := bind_some hm
      obtain ⟨v1, hv8, hm⟩ := bind_some hm
      obtain ⟨out1, hv9, hm⟩ := bind_some hm
      refine W.drawR [.c (tO tapi_Destination k1 out), .c ((tL tapi_Destination).is l), .c ((tI .i64).is i), .c (tapi_Destination.ptr v), .c (tapi_Id.ptr v.To), .c (tapi_Id.is v.To), .c ((tL tapi_Destination).is l), .c ((tI .i64).is i), .c (tapi_Destination.ptr v1), .c (tapi_Id.ptr v1.From), .c (tapi_Id.is v1.From), .c (tapi_Destination.is (⟨v.To, v1.From⟩ : api_Destination)), .c ((tL tapi_Destination).is [(⟨v.To, v1.From⟩ : api_Destination)]), .f (fun k2 => (tO tapi_Destination k2 out1)), .f (fun k2 => (tO tapi_Destination k2 out1))] [([], [3]), ([], [0]), ([], [4]), ([1, 2], []), ([3], []), ([4], []), ([], [0]), ([], [4]), ([6, 7], []), ([8], []), ([9], []), ([5, 10], []), ([11], []), ([0, 12], []), ([13], [])] 13 [5] (fun k : Tok => tO tapi_Destination k out1) (fun k : Tok => [(5, Own tapi_Destination 36 k out1.length)]) (none : Tok) Tryd.mixed rfl rfl rfl (fun k2 => ⟨.inr (Op1.move (.tmp rfl)), .inr (Op1.move (.tmp rfl)), .inr (Op1.move (.tmp rfl)), .inr (Op1.idx hv7 Tryd.underlying22 Tryd.sizeOf36 (.tmp rfl) (.tmp rfl)), .inr (Op1.fieldAddr Tryd.underlying36 rfl (fun w => ⟨2, Tryd.sizeOf24 w⟩) fapi_Destination_1 (.tmp rfl)), .inr (Op1.load ty24 (.tmp rfl)), .inr (Op1.move (.tmp rfl)), .inr (Op1.move (.tmp rfl)), .inr (Op1.idx hv8 Tryd.underlying22 Tryd.sizeOf36 (.tmp rfl) (.tmp rfl)), .inr (Op1.fieldAddr Tryd.underlying36 rfl (fun w => ⟨2, Tryd.sizeOf24 w⟩) fapi_Destination_0 (.tmp rfl)), .inr (Op1.load ty24 (.tmp rfl)), .inr (Op1.build (s := tapi_Destination) (x := (⟨v.To, v1.From⟩ : api_Destination)) zapi_Destination_f rfl Tryd.underlying36 (zapi_Destination_sz _ Tryd.underlying36) ze36 ⟨_, tapi_Id, v.To, _, _, rfl, Tryd.sizeOf24, (.tmp rfl), sapi_Destination_0, ⟨_, tapi_Id, v1.From, _, _, rfl, Tryd.sizeOf24, (.tmp rfl), sapi_Destination_1, rfl⟩⟩), .inr (Op1.buildSlice (n := 1) (ys := [(0, (⟨v.To, v1.From⟩ : api_Destination))]) (z := zapi_Destination) (xs := [(⟨v.To, v1.From⟩ : api_Destination)]) Tryd.underlying22 el36 ze36 ⟨rfl, (.tmp rfl), trivial⟩ (by simp) (by decide) rfl), .inl rfl, .inr (Op1.assign (.tmp rfl)), trivial⟩) (.inl ⟨by decide, _, _, rfl, rfl, rfl, rfl, OpR.appC (key := 5) hv9 Tryd.underlying22 el36 (.tmp rfl) (.tmp rfl) rfl⟩) (fun k2 => ?_)
      refine WN.block ?_
      refine WN.seq ?_
      refine W.region ?_
      refine WL.mv rfl rfl ?_
      refine WL.lenL (s := 0) (.tmp rfl) fun hl10 => ?_
      refine WL.op rfl (Op1.addI1 (.tmp rfl) (.int (inR64.2 (by omega))) hp6 hl10) ?_
      refine WL.gv rfl rfl ?_
      refine WL.nil ?_
      exact WN.again n4 ((out1, i + 1), k2) (Nat.lt_succ_self n4) hm ⟨Ent.q rfl, Ent.q rfl, Ent.q rfl, trivial⟩ ⟨rfl, rfl, trivial⟩
    · have hp6 := of_decide_eq_false hc5
      rw [if_neg hp6] at hm
      refine W.exit rfl ?_
      have hr11 := Option.some.inj hm
      clear hm
      subst hr11
      have hm := hk3
      try dsimp only at hm
      refine WN.seq ?_
      refine W.sr ?_
      refine WL.mv rfl rfl ?_
      refine WL.gv rfl rfl ?_
      refine WL.ns ?_
      cases hm
      exact W.ret1 () rfl (Opd.own (.tmp rfl)) trivial

theorem destinations_Valid_spec (l : List api_Destination) (r : Bool) (hm : M.destinations_Valid l = some r) : FSpec Tryd.prog 15 [((tL tapi_Destination).is l)] (tB.is r) := by
  unfold M.destinations_Valid at hm
  refine FSpec.of Tryd.func15 rfl rfl rfl (fun g0 => ?_)
  refine W.sr ?_
  refine WL.op rfl (Op1.assign .bool) ?_
  refine WL.nr ?_
  refine WL.opR rfl (OpR.makeMap tapi_Id tB 7) (fun b => ?_)
  refine WL.opR rfl (OpR.makeMap tapi_Id tB 8) (fun b1 => ?_)
  refine WL.gv rfl rfl ?_
  refine WL.gv rfl rfl ?_
  refine WL.ns ?_
  refine W.seq ?_
  refine W.sr ?_
  refine WL.mv rfl rfl ?_
  refine WL.op rfl (Op1.lenL Tryd.underlying22 (.tmp rfl)) ?_
  refine WL.op rfl (Op1.move (.int (inR64.2 (by omega)))) ?_
  refine WL.ns ?_
  refine W.block ?_
  obtain ⟨s1, hs2, hk3⟩ := bind_some hm
  clear hm
  refine W.loop (fun m (s : Int × List api_Destination × List api_Destination × ((List (api_Id × Bool)) × (List (api_Id × Bool)))) => m = s.2.2.1.length ∧ l = s.2.1 ++ s.2.2.1 ∧ s.1 = (s.2.1.length : Int) ∧ M.destinations_Valid_loop1 s.2.2.1 s.2.2.2.1 s.2.2.2.2 = some s1) (fun s => [(11, ((tI .i64).is s.1)), (0, ((tL tapi_Destination).is l)), (3, (Mv b)), (4, (Mv b1)), (9, ((tL tapi_Destination).is l)), (10, ((tI .i64).is (l.length : Int)))]) (fun s => [(7, Mp tapi_Id tB s.2.2.2.1 b), (8, Mp tapi_Id tB s.2.2.2.2 b1)]) l.length ((0 : Int), [], l, (([] : List (api_Id × Bool)), ([] : List (api_Id × Bool)))) ⟨rfl, rfl, rfl, hs2⟩ ⟨Ent.q rfl, Ent.q rfl, Ent.q rfl, Ent.q rfl, Ent.q rfl, Ent.q rfl, trivial⟩ ⟨rfl, rfl, ⟨rfl, rfl, trivial⟩⟩ ?_
  rintro m ⟨i, pre, rest1, ⟨v, v1⟩⟩ ⟨hn7, hxs4, hi5, hm⟩
  try dsimp only at hn7 hxs4 hi5 hm
  change W _ _ _ _ _ _ _ [(11, ((tI .i64).is i)), (0, ((tL tapi_Destination).is l)), (3, (Mv b)), (4, (Mv b1)), (9, ((tL tapi_Destination).is l)), (10, ((tI .i64).is (l.length : Int)))] [(7, Mp tapi_Id tB v b), (8, Mp tapi_Id tB v1 b1)]
  refine W.lenL (s := 9) (.tmp rfl) fun hlen6 => ?_
  refine W.sr ?_
  refine WL.op rfl (Op1.ltI (.tmp rfl) (.tmp rfl)) ?_
  refine WL.ns ?_
  refine W.seq ?_
  refine W.cond (.tmp rfl) (fun hc9 => ?_) (fun hc9 => ?_)
  · have hp10 := of_decide_eq_true hc9
    obtain ⟨e, es, hrest12⟩ := range_more hxs4 hi5 hp10
    subst hrest12
    rw [M.destinations_Valid_loop1.eq_2] at hm
    refine W.skip ?_
    refine WN.seq ?_
    refine W.seq ?_
    refine W.block ?_
    refine W.sr ?_
    refine WL.op rfl (Op1.idxPre hxs4 hi5 Tryd.underlying22 Tryd.sizeOf36 (.tmp rfl) (.tmp rfl)) ?_
    refine WL.op rfl (Op1.load ty36 (.tmp rfl)) ?_
    refine WL.opR rfl (OpR.alloc 6 ze36) (fun b2 => ?_)
    refine WL.opU (OpR.storeB (b := b2) 6 Tryd.sizeOf36 (Cellable.is tapi_Destination e) rfl (.tmp rfl) (.tmp rfl)) (fun _ => ?_)
    refine WL.sealed (t := tapi_Destination) (u := e) 6 6 rfl rfl ?_
    refine WL.ns ?_
    refine W.seq ?_
    obtain ⟨s13, hs14, hk15⟩ := bind_some hm
    clear hm
    refine W.join (fun s : Bool => s = s13) (fun s => [(24, (tB.is s)), (0, ((tL tapi_Destination).is l)), (3, (Mv b)), (4, (Mv b1)), (6, (tapi_Destination.ptr e)), (9, ((tL tapi_Destination).is l)), (10, ((tI .i64).is (l.length : Int))), (11, ((tI .i64).is i))]) (fun s => [(7, Mp tapi_Id tB v b), (8, Mp tapi_Id tB v1 b1)]) ?_ ?_
    · rintro v2 hj21
      try dsimp only at hj21
      subst hj21
      have hm := hk15
      clear hk15
      try dsimp only at hm
      change W _ _ _ _ _ _ _ [(24, (tB.is v2)), (0, ((tL tapi_Destination).is l)), (3, (Mv b)), (4, (Mv b1)), (6, (tapi_Destination.ptr e)), (9, ((tL tapi_Destination).is l)), (10, ((tI .i64).is (l.length : Int))), (11, ((tI .i64).is i))] [(7, Mp tapi_Id tB v b), (8, Mp tapi_Id tB v1 b1)]
      refine W.cond (.tmp rfl) (fun hc18 => ?_) (fun hc18 => ?_)
      · have hp19 := hc18
        rw [if_pos hp19] at hm
        refine W.sr ?_
        refine WL.op rfl (Op1.assign .bool) ?_
        refine WL.ns ?_
        have hr20 := Option.some.inj hm
        clear hm
        subst hr20
        have hm := hk3
        try dsimp only at hm
        cases hm
        exact W.ret1 () rfl (.tmp rfl) trivial
      · have hp19 := ne_of_false hc18
        rw [if_neg hp19] at hm
        refine W.skip ?_
        refine WN.seq ?_
        refine W.weakR (res' := [(7, Mp tapi_Id tB v b), (8, Mp tapi_Id tB v1 b1)]) ⟨rfl, rfl, ⟨rfl, rfl, trivial⟩⟩ ?_
        refine W.drawM [.c (Mv b), .c (tapi_Id.ptr e.From), .c (tapi_Id.is e.From), .c (Mv b1), .c (tapi_Id.ptr e.To), .c (tapi_Id.is e.To), .c Asn.any, .c Asn.any] [([], [3]), ([], [6]), ([1], []), ([], [4]), ([], [6]), ([4], []), ([0, 2], []), ([3, 5], [])] [6, 7] [[], [], [], [], [], [], [], []] (fun m cv => match m with | 0 => [(7, Mp tapi_Id tB v b), (8, Mp tapi_Id tB v1 b1)] | 1 => [(7, Mp tapi_Id tB (mset v e.From true) b), (8, Mp tapi_Id tB v1 b1)] | _ => [(8, Mp tapi_Id tB (mset v1 e.To true) b1), (7, Mp tapi_Id tB (mset v e.From true) b)]) (fun _ => none) Tryd.mixed rfl rfl rfl rfl rfl ⟨fun _ _ _ _ => rfl, ⟨fun _ _ _ _ => rfl, ⟨fun _ _ _ _ => rfl, ⟨fun _ _ _ _ => rfl, ⟨fun _ _ _ _ => rfl, ⟨fun _ _ _ _ => rfl, ⟨fun _ _ _ _ => rfl, ⟨fun _ _ _ _ => rfl, trivial⟩⟩⟩⟩⟩⟩⟩⟩ rfl ⟨.inr ⟨fun cv => [], (fun _ _ _ _ => trivial), fun cv => Op1.move (.tmp rfl)⟩, ⟨.inr ⟨fun cv => [], (fun _ _ _ _ => trivial), fun cv => Op1.fieldAddr Tryd.underlying36 rfl (fun w => ⟨2, Tryd.sizeOf24 w⟩) fapi_Destination_0 (.tmp rfl)⟩, ⟨.inr ⟨fun cv => [], (fun _ _ _ _ => trivial), fun cv => Op1.load ty24 (.tmp rfl)⟩, ⟨.inr ⟨fun cv => [], (fun _ _ _ _ => trivial), fun cv => Op1.move (.tmp rfl)⟩, ⟨.inr ⟨fun cv => [], (fun _ _ _ _ => trivial), fun cv => Op1.fieldAddr Tryd.underlying36 rfl (fun w => ⟨2, Tryd.sizeOf24 w⟩) fapi_Destination_1 (.tmp rfl)⟩, ⟨.inr ⟨fun cv => [], (fun _ _ _ _ => trivial), fun cv => Op1.load ty24 (.tmp rfl)⟩, ⟨.inl rfl, ⟨.inl rfl, trivial⟩⟩⟩⟩⟩⟩⟩⟩ ⟨⟨_, _, _, [7], (fun cv => [(7, Mp tapi_Id tB (mset v e.From true) b)]), rfl, rfl, rfl, rfl, fun _ => rfl, fun _ _ => rfl, fun cv => OpR.viaU (OpR.mapUpdate (b := b) (v := true) 7 Tryd.underlying61 kt24 rfl (.tmp rfl) (.tmp rfl) .bool)⟩, ⟨⟨_, _, _, [8], (fun cv => [(8, Mp tapi_Id tB (mset v1 e.To true) b1)]), rfl, rfl, rfl, rfl, fun _ => rfl, fun _ _ => rfl, fun cv => OpR.viaU (OpR.mapUpdate (b := b1) (v := true) 8 Tryd.underlying61 kt24 rfl (.tmp rfl) (.tmp rfl) .bool)⟩, trivial⟩⟩ (fun cv => ?_)
        refine WN.block ?_
        refine WN.seq ?_
        refine W.region ?_
        refine WL.op rfl (Op1.addI (.tmp rfl) (.int (inR64.2 (by omega))) (range_inR hi5 hp10 hlen6)) ?_
        refine WL.mv rfl rfl ?_
        refine WL.nil ?_
        exact WN.again es.length (i + 1, pre ++ [e], es, (mset v e.From true, mset v1 e.To true)) (range_lt hn7) ⟨rfl, range_step hxs4, range_idx hi5, hm⟩ ⟨Ent.q rfl, Ent.q rfl, Ent.q rfl, Ent.q rfl, Ent.q rfl, Ent.q rfl, trivial⟩ ⟨rfl, rfl, ⟨rfl, rfl, trivial⟩⟩
    · have hm := hs14
      clear hs14
      refine W.region ?_
      refine WL.mv rfl rfl ?_
      refine WL.op rfl (Op1.fieldAddr Tryd.underlying36 rfl (fun w => ⟨2, Tryd.sizeOf24 w⟩) fapi_Destination_0 (.tmp rfl)) ?_
      refine WL.op rfl (Op1.load ty24 (.tmp rfl)) ?_
      refine WL.op rfl (Op1.lookup 7 Tryd.underlying61 kt24 ze4 rfl (.tmp rfl) (.tmp rfl)) ?_
      refine WL.mv rfl rfl ?_
      rcases bcases (mget v e.From false) with hb16 | hb16
      · have hp17 := hb16
        rw [if_pos hp17] at hm
        refine WL.pass rfl rfl rfl rfl hb16 rfl rfl ?_
        refine WL.pass rfl rfl rfl rfl hb16 rfl rfl ?_
        refine WL.pass rfl rfl rfl rfl hb16 rfl rfl ?_
        refine WL.pass rfl rfl rfl rfl hb16 rfl rfl ?_
        refine WL.op rfl (Op1.pickT (.tmp rfl) hb16 .bool) ?_
        refine WL.nil ?_
        exact WN.meet true (Option.some.inj hm) ⟨Ent.q rfl, Ent.q rfl, Ent.q rfl, Ent.q rfl, Ent.q rfl, Ent.q rfl, Ent.q rfl, Ent.q rfl, trivial⟩ ⟨rfl, rfl, ⟨rfl, rfl, trivial⟩⟩
      · have hp17 := ne_of_false hb16
        rw [if_neg hp17] at hm
        refine WL.run rfl rfl rfl rfl hb16 rfl rfl (Op1.move (.tmp rfl)) ?_
        refine WL.run rfl rfl rfl rfl hb16 rfl rfl (Op1.fieldAddr Tryd.underlying36 rfl (fun w => ⟨2, Tryd.sizeOf24 w⟩) fapi_Destination_1 (.tmp rfl)) ?_
        refine WL.run rfl rfl rfl rfl hb16 rfl rfl (Op1.load ty24 (.tmp rfl)) ?_
        refine WL.run rfl rfl rfl rfl hb16 rfl rfl (Op1.lookup 8 Tryd.underlying61 kt24 ze4 rfl (.tmp rfl) (.tmp rfl)) ?_
        refine WL.op rfl (Op1.pickF (.tmp rfl) hb16 (.tmp rfl)) ?_
        refine WL.nil ?_
        exact WN.meet (mget v1 e.To false) (Option.some.inj hm) ⟨Ent.q rfl, Ent.q rfl, Ent.q rfl, Ent.q rfl, Ent.q rfl, Ent.q rfl, Ent.q rfl, Ent.q rfl, trivial⟩ ⟨rfl, rfl, ⟨rfl, rfl, trivial⟩⟩
  · have hrest12 := range_end hxs4 hi5 (of_decide_eq_false hc9)
    subst hrest12
    rw [M.destinations_Valid_loop1.eq_1] at hm
    refine W.exit rfl ?_
    have hr22 := Option.some.inj hm
    clear hm
    subst hr22
    have hm := hk3
    try dsimp only at hm
    refine WN.seq ?_
    refine W.sr ?_
    refine WL.mv rfl rfl ?_
    refine WL.op rfl (Op1.lenL Tryd.underlying22 (.tmp rfl)) ?_
    refine WL.op rfl (Op1.leI (.tmp rfl) (.int (inR64.2 (by omega)))) ?_
    refine WL.gv rfl rfl ?_
    refine WL.ns ?_
    cases hm
    exact W.ret1 () rfl (.tmp rfl) trivial

theorem r47_May_spec (n : Nat) (l : List api_Destination) (r : Bool) (hm : M.r47_May n l = some r) : FSpec Tryd.prog 16 [((tL tapi_Destination).is l)] (tB.is r) := by
  unfold M.r47_May at hm
  refine FSpec.of Tryd.func16 rfl rfl rfl (fun g0 => ?_)
  refine W.sr ?_
  refine WL.op rfl (Op1.assign .bool) ?_
  refine WL.ns ?_
  refine W.seq ?_
  refine W.sr ?_
  refine WL.op rfl (Op1.assign (.int (inR64.2 (by omega)))) ?_
  refine WL.ns ?_
  refine W.block ?_
  obtain ⟨s1, hs2, hk3⟩ := bind_some hm
  clear hm
  refine W.loop (fun m (s : Int) => M.r47_May_loop1 l m s = some s1) (fun s => [(3, ((tI .i64).is s)), (0, ((tL tapi_Destination).is l))]) (fun s => []) _ (0 : Int) hs2 ⟨Ent.q rfl, Ent.q rfl, trivial⟩ trivial ?_
  rintro n4 i hm
  try dsimp only at hm
  change W _ _ _ _ _ _ _ [(3, ((tI .i64).is i)), (0, ((tL tapi_Destination).is l))] []
  cases n4 with
  | zero => rw [M.r47_May_loop1.eq_1] at hm; cases hm
  | succ n4 =>
    rw [M.r47_May_loop1.eq_2] at hm
    refine W.seq ?_
    refine W.sr ?_
    refine WL.mv rfl rfl ?_
    refine WL.mv rfl rfl ?_
    refine WL.op rfl (Op1.lenL Tryd.underlying22 (.tmp rfl)) ?_
    refine WL.op rfl (Op1.ltI (.tmp rfl) (.tmp rfl)) ?_
    refine WL.ns ?_
    refine W.cond (.tmp rfl) (fun hc5 => ?_) (fun hc5 => ?_)
    · have hp6 := of_decide_eq_true hc5
      rw [if_pos hp6] at hm
      refine W.skip ?_
      refine WN.seq ?_
      refine W.seq ?_
      refine W.block ?_
      refine W.sr ?_
      refine WL.op rfl (Op1.assign (.int (inR64.2 (by omega)))) ?_
      refine WL.ns ?_
      refine W.block ?_
      obtain ⟨s7, hs8, hk9⟩ := bind_some hm
      clear hm
      refine W.loop (fun m (s : Int) => M.r47_May_loop2 l i m s = some s7) (fun s => [(4, ((tI .i64).is s)), (0, ((tL tapi_Destination).is l)), (3, ((tI .i64).is i))]) (fun s => []) _ (0 : Int) hs8 ⟨Ent.q rfl, Ent.q rfl, Ent.q rfl, trivial⟩ trivial ?_
      rintro n10 k hm
      try dsimp only at hm
      change W _ _ _ _ _ _ _ [(4, ((tI .i64).is k)), (0, ((tL tapi_Destination).is l)), (3, ((tI .i64).is i))] []
      cases n10 with
      | zero => rw [M.r47_May_loop2.eq_1] at hm; cases hm
      | succ n10 =>
        rw [M.r47_May_loop2.eq_2] at hm
        refine W.seq ?_
        refine W.sr ?_
        refine WL.mv rfl rfl ?_
        refine WL.mv rfl rfl ?_
        refine WL.op rfl (Op1.ltI (.tmp rfl) (.tmp rfl)) ?_
        refine WL.ns ?_
        refine W.cond (.tmp rfl) (fun hc11 => ?_) (fun hc11 => ?_)
        · have hp12 := of_decide_eq_true hc11
          rw [if_pos hp12] at hm
          refine W.skip ?_
          refine WN.seq ?_
          refine W.seq ?_
          refine W.block ?_
          refine W.seq ?_
          obtain ⟨v, hv13, hm⟩ := bind_some hm
          obtain ⟨v1, hv14, hm⟩ := bind_some hm
          rcases bcases (decide (v.From = v1.From)) with hb15 | hb15
          · have hp16 := of_decide_eq_true hb15
            rw [if_pos hp16] at hm
            refine W.draw [.c ((tL tapi_Destination).is l), .c ((tI .i64).is k), .c (tapi_Destination.ptr v), .c (tapi_Id.ptr v.From), .c (tapi_Id.is v.From), .c ((tL tapi_Destination).is l), .c ((tI .i64).is i), .c (tapi_Destination.ptr v1), .c (tapi_Id.ptr v1.From), .c (tapi_Id.is v1.From), .c (tB.is (decide (v.From = v1.From))), .c (tB.is (decide (v.From = v1.From))), .c (Asn.eq undef), .c (Asn.eq undef), .c (Asn.eq undef), .c (Asn.eq undef), .c (Asn.eq undef), .c (Asn.eq undef), .c (Asn.eq undef), .c (Asn.eq undef), .c (Asn.eq undef), .c (Asn.eq undef), .c (Asn.eq undef), .c (tB.is true)] [([], [0]), ([], [4]), ([0, 1], []), ([2], []), ([3], []), ([], [0]), ([], [3]), ([5, 6], []), ([7], []), ([8], []), ([4, 9], []), ([10], []), ([11], [0]), ([11], [4]), ([11, 12, 13], []), ([11, 14], []), ([11, 15], []), ([11], [0]), ([11], [3]), ([11, 17, 18], []), ([11, 19], []), ([11, 20], []), ([11, 16, 21], []), ([11, 22], [])] Tryd.mixed rfl rfl rfl rfl (by exact ⟨.inr (Op1.move (.tmp rfl)), .inr (Op1.move (.tmp rfl)), .inr (Op1.idx hv13 Tryd.underlying22 Tryd.sizeOf36 (.tmp rfl) (.tmp rfl)), .inr (Op1.fieldAddr Tryd.underlying36 rfl (fun w => ⟨2, Tryd.sizeOf24 w⟩) fapi_Destination_0 (.tmp rfl)), .inr (Op1.load ty24 (.tmp rfl)), .inr (Op1.move (.tmp rfl)), .inr (Op1.move (.tmp rfl)), .inr (Op1.idx hv14 Tryd.underlying22 Tryd.sizeOf36 (.tmp rfl) (.tmp rfl)), .inr (Op1.fieldAddr Tryd.underlying36 rfl (fun w => ⟨2, Tryd.sizeOf24 w⟩) fapi_Destination_0 (.tmp rfl)), .inr (Op1.load ty24 (.tmp rfl)), .inr (Op1.eqSt (D := 2) rfl (by decide) eg24 eq24 (.tmp rfl) (.tmp rfl)), .inr (Op1.move (.tmp rfl)), .inr ⟨_, _, _, rfl, rfl, .inl ⟨rfl, .inr ⟨hb15, rfl⟩⟩⟩, .inr ⟨_, _, _, rfl, rfl, .inl ⟨rfl, .inr ⟨hb15, rfl⟩⟩⟩, .inr ⟨_, _, _, rfl, rfl, .inl ⟨rfl, .inr ⟨hb15, rfl⟩⟩⟩, .inr ⟨_, _, _, rfl, rfl, .inl ⟨rfl, .inr ⟨hb15, rfl⟩⟩⟩, .inr ⟨_, _, _, rfl, rfl, .inl ⟨rfl, .inr ⟨hb15, rfl⟩⟩⟩, .inr ⟨_, _, _, rfl, rfl, .inl ⟨rfl, .inr ⟨hb15, rfl⟩⟩⟩, .inr ⟨_, _, _, rfl, rfl, .inl ⟨rfl, .inr ⟨hb15, rfl⟩⟩⟩, .inr ⟨_, _, _, rfl, rfl, .inl ⟨rfl, .inr ⟨hb15, rfl⟩⟩⟩, .inr ⟨_, _, _, rfl, rfl, .inl ⟨rfl, .inr ⟨hb15, rfl⟩⟩⟩, .inr ⟨_, _, _, rfl, rfl, .inl ⟨rfl, .inr ⟨hb15, rfl⟩⟩⟩, .inr ⟨_, _, _, rfl, rfl, .inl ⟨rfl, .inr ⟨hb15, rfl⟩⟩⟩, .inr (Op1.pickT (.tmp rfl) hb15 .bool), trivial⟩) ?_
            refine WN.seq ?_
            refine W.condT (.tmp rfl) ?_
            refine W.sr ?_
            refine WL.op rfl (Op1.assign .bool) ?_
            refine WL.ns ?_
            have hr17 := Option.some.inj hm
            clear hm
            subst hr17
            have hm := hk9
            try dsimp only at hm
            have hr18 := Option.some.inj hm
            clear hm
            subst hr18
            have hm := hk3
            try dsimp only at hm
            cases hm
            exact W.ret1 () rfl (.tmp rfl) trivial
          · have hp16 := of_decide_eq_false hb15
            rw [if_neg hp16] at hm
            obtain ⟨v2, hv19, hm⟩ := bind_some hm
            obtain ⟨v3, hv20, hm⟩ := bind_some hm
            refine W.draw [.c ((tL tapi_Destination).is l), .c ((tI .i64).is k), .c (tapi_Destination.ptr v), .c (tapi_Id.ptr v.From), .c (tapi_Id.is v.From), .c ((tL tapi_Destination).is l), .c ((tI .i64).is i), .c (tapi_Destination.ptr v1), .c (tapi_Id.ptr v1.From), .c (tapi_Id.is v1.From), .c (tB.is (decide (v.From = v1.From))), .c (tB.is (decide (v.From = v1.From))), .c ((tL tapi_Destination).is l), .c ((tI .i64).is k), .c (tapi_Destination.ptr v2), .c (tapi_Id.ptr v2.To), .c (tapi_Id.is v2.To), .c ((tL tapi_Destination).is l), .c ((tI .i64).is i), .c (tapi_Destination.ptr v3), .c (tapi_Id.ptr v3.To), .c (tapi_Id.is v3.To), .c (tB.is (decide (v2.To = v3.To))), .c (tB.is (decide (v2.To = v3.To)))] [([], [0]), ([], [4]), ([0, 1], []), ([2], []), ([3], []), ([], [0]), ([], [3]), ([5, 6], []), ([7], []), ([8], []), ([4, 9], []), ([10], []), ([11], [0]), ([11], [4]), ([11, 12, 13], []), ([11, 14], []), ([11, 15], []), ([11], [0]), ([11], [3]), ([11, 17, 18], []), ([11, 19], []), ([11, 20], []), ([11, 16, 21], []), ([11, 22], [])] Tryd.mixed rfl rfl rfl rfl (by exact ⟨.inr (Op1.move (.tmp rfl)), .inr (Op1.move (.tmp rfl)), .inr (Op1.idx hv13 Tryd.underlying22 Tryd.sizeOf36 (.tmp rfl) (.tmp rfl)), .inr (Op1.fieldAddr Tryd.underlying36 rfl (fun w => ⟨2, Tryd.sizeOf24 w⟩) fapi_Destination_0 (.tmp rfl)), .inr (Op1.load ty24 (.tmp rfl)), .inr (Op1.move (.tmp rfl)), .inr (Op1.move (.tmp rfl)), .inr (Op1.idx hv14 Tryd.underlying22 Tryd.sizeOf36 (.tmp rfl) (.tmp rfl)), .inr (Op1.fieldAddr Tryd.underlying36 rfl (fun w => ⟨2, Tryd.sizeOf24 w⟩) fapi_Destination_0 (.tmp rfl)), .inr (Op1.load ty24 (.tmp rfl)), .inr (Op1.eqSt (D := 2) rfl (by decide) eg24 eq24 (.tmp rfl) (.tmp rfl)), .inr (Op1.move (.tmp rfl)), .inr ⟨_, _, _, rfl, rfl, .inl ⟨rfl, .inl ⟨hb15, Op1.move (.tmp rfl)⟩⟩⟩, .inr ⟨_, _, _, rfl, rfl, .inl ⟨rfl, .inl ⟨hb15, Op1.move (.tmp rfl)⟩⟩⟩, .inr ⟨_, _, _, rfl, rfl, .inl ⟨rfl, .inl ⟨hb15, Op1.idx hv19 Tryd.underlying22 Tryd.sizeOf36 (.tmp rfl) (.tmp rfl)⟩⟩⟩, .inr ⟨_, _, _, rfl, rfl, .inl ⟨rfl, .inl ⟨hb15, Op1.fieldAddr Tryd.underlying36 rfl (fun w => ⟨2, Tryd.sizeOf24 w⟩) fapi_Destination_1 (.tmp rfl)⟩⟩⟩, .inr ⟨_, _, _, rfl, rfl, .inl ⟨rfl, .inl ⟨hb15, Op1.load ty24 (.tmp rfl)⟩⟩⟩, .inr ⟨_, _, _, rfl, rfl, .inl ⟨rfl, .inl ⟨hb15, Op1.move (.tmp rfl)⟩⟩⟩, .inr ⟨_, _, _, rfl, rfl, .inl ⟨rfl, .inl ⟨hb15, Op1.move (.tmp rfl)⟩⟩⟩, .inr ⟨_, _, _, rfl, rfl, .inl ⟨rfl, .inl ⟨hb15, Op1.idx hv20 Tryd.underlying22 Tryd.sizeOf36 (.tmp rfl) (.tmp rfl)⟩⟩⟩, .inr ⟨_, _, _, rfl, rfl, .inl ⟨rfl, .inl ⟨hb15, Op1.fieldAddr Tryd.underlying36 rfl (fun w => ⟨2, Tryd.sizeOf24 w⟩) fapi_Destination_1 (.tmp rfl)⟩⟩⟩, .inr ⟨_, _, _, rfl, rfl, .inl ⟨rfl, .inl ⟨hb15, Op1.load ty24 (.tmp rfl)⟩⟩⟩, .inr ⟨_, _, _, rfl, rfl, .inl ⟨rfl, .inl ⟨hb15, Op1.eqSt (D := 2) rfl (by decide) eg24 eq24 (.tmp rfl) (.tmp rfl)⟩⟩⟩, .inr (Op1.pickF (.tmp rfl) hb15 (.tmp rfl)), trivial⟩) ?_
            refine WN.seq ?_
            refine W.cond (.tmp rfl) (fun hc21 => ?_) (fun hc21 => ?_)
            · have hp22 := of_decide_eq_true hc21
              rw [if_pos hp22] at hm
              refine W.sr ?_
              refine WL.op rfl (Op1.assign .bool) ?_
              refine WL.ns ?_
              have hr23 := Option.some.inj hm
              clear hm
              subst hr23
              have hm := hk9
              try dsimp only at hm
              have hr24 := Option.some.inj hm
              clear hm
              subst hr24
              have hm := hk3
              try dsimp only at hm
              cases hm
              exact W.ret1 () rfl (.tmp rfl) trivial
            · have hp22 := of_decide_eq_false hc21
              rw [if_neg hp22] at hm
              refine W.skip ?_
              refine WN.block ?_
              refine WN.seq ?_
              refine W.region ?_
              refine WL.mv rfl rfl ?_
              obtain ⟨v4, hv25, hm⟩ := bind_some hm
              refine WL.op rfl (Op1.addC hv25 (.tmp rfl) (.int (inR64.2 (by omega)))) ?_
              refine WL.gv rfl rfl ?_
              refine WL.nil ?_
              exact WN.again n10 v4 (Nat.lt_succ_self n10) hm ⟨Ent.q rfl, Ent.q rfl, Ent.q rfl, trivial⟩ trivial
        · have hp12 := of_decide_eq_false hc11
          rw [if_neg hp12] at hm
          refine W.exit rfl ?_
          have hr26 := Option.some.inj hm
          clear hm
          subst hr26
          have hm := hk9
          try dsimp only at hm
          refine WN.block ?_
          refine WN.seq ?_
          refine W.region ?_
          refine WL.mv rfl rfl ?_
          obtain ⟨v5, hv27, hm⟩ := bind_some hm
          refine WL.op rfl (Op1.addC hv27 (.tmp rfl) (.int (inR64.2 (by omega)))) ?_
          refine WL.gv rfl rfl ?_
          refine WL.nil ?_
          exact WN.again n4 v5 (Nat.lt_succ_self n4) hm ⟨Ent.q rfl, Ent.q rfl, trivial⟩ trivial
    · have hp6 := of_decide_eq_false hc5
      rw [if_neg hp6] at hm
      refine W.exit rfl ?_
      have hr28 := Option.some.inj hm
      clear hm
      subst hr28
      have hm := hk3
      try dsimp only at hm
      refine WN.seq ?_
      refine W.sr ?_
      refine WL.mv rfl rfl ?_
      refine WL.op rfl (Op1.lenL Tryd.underlying22 (.tmp rfl)) ?_
      refine WL.op rfl (Op1.leI (.tmp rfl) (.int (inR64.2 (by omega)))) ?_
      refine WL.gv rfl rfl ?_
      refine WL.ns ?_
      cases hm
      exact W.ret1 () rfl (.tmp rfl) trivial

theorem law47_DestinationsLookup_spec (n : Nat) (l : List api_Destination) (id : api_Id) (r : Bool) (hm : M.law47_DestinationsLookup n l id = some r) : FSpec Tryd.prog 3 [((tL tapi_Destination).is l), (tapi_Id.is id)] (tB.is r) := by
  unfold M.law47_DestinationsLookup at hm
  refine FSpec.of Tryd.func3 rfl rfl rfl (fun g0 => ?_)
  refine W.sr ?_
  refine WL.op rfl (Op1.box (.tmp rfl)) ?_
  refine WL.op rfl (Op1.assign .bool) ?_
  refine WL.ns ?_
  refine W.seq ?_
  obtain ⟨s1, hs2, hk3⟩ := bind_some hm
  clear hm
  refine W.join (fun s : Bool => s = s1) (fun s => [(19, (tB.is s)), (0, ((tL tapi_Destination).is l)), (3, (tapi_Id.ptr id))]) (fun s => []) ?_ ?_
  · rintro v hj25
    try dsimp only at hj25
    subst hj25
    have hm := hk3
    clear hk3
    try dsimp only at hm
    change W _ _ _ _ _ _ _ [(19, (tB.is v)), (0, ((tL tapi_Destination).is l)), (3, (tapi_Id.ptr id))] []
    refine W.cond (.tmp rfl) (fun hc7 => ?_) (fun hc7 => ?_)
    · have hp8 := hc7
      rw [if_pos hp8] at hm
      refine W.sr ?_
      obtain ⟨awake1, hv9, hm⟩ := bind_some hm
      refine WL.op rfl (Op1.call Tryd.call10 (law47_awake_spec _ _ hv9) trivial) ?_
      refine WL.gv rfl rfl ?_
      refine WL.ns ?_
      cases hm
      exact W.ret1 () rfl (.tmp rfl) trivial
    · have hp8 := ne_of_false hc7
      rw [if_neg hp8] at hm
      refine W.skip ?_
      refine WN.seq ?_
      refine W.sr ?_
      refine WL.op rfl (Op1.load ty24 (.tmp rfl)) ?_
      refine WL.mv rfl rfl ?_
      obtain ⟨to, hv10, hm⟩ := bind_some hm
      refine WL.op rfl (Op1.call Tryd.call11 (destinations_To_spec _ _ _ _ hv10) ⟨(.tmp rfl), (.tmp rfl), trivial⟩) ?_
      refine WL.mv rfl rfl ?_
      refine WL.op rfl (Op1.extract0 (.tmp rfl)) ?_
      refine WL.op rfl (Op1.extract1 (.tmp rfl)) ?_
      refine WL.opR rfl (OpR.alloc 5 ze24) (fun b => ?_)
      refine WL.opU (OpR.storeB (b := b) 5 Tryd.sizeOf24 (Cellable.is tapi_Id to.1) rfl (.tmp rfl) (.tmp rfl)) (fun _ => ?_)
      refine WL.sealed (t := tapi_Id) (u := to.1) 5 5 rfl rfl ?_
      refine WL.gv rfl rfl ?_
      refine WL.nr ?_
      refine WL.op rfl (Op1.load ty24 (.tmp rfl)) ?_
      refine WL.mv rfl rfl ?_
      obtain ⟨from0_, hv11, hm⟩ := bind_some hm
      refine WL.op rfl (Op1.call Tryd.call12 (destinations_From_spec _ _ _ _ hv11) ⟨(.tmp rfl), (.tmp rfl), trivial⟩) ?_
      refine WL.mv rfl rfl ?_
      refine WL.op rfl (Op1.extract0 (.tmp rfl)) ?_
      refine WL.op rfl (Op1.extract1 (.tmp rfl)) ?_
      refine WL.opR rfl (OpR.alloc 7 ze24) (fun b1 => ?_)
      refine WL.opU (OpR.storeB (b := b1) 7 Tryd.sizeOf24 (Cellable.is tapi_Id from0_.1) rfl (.tmp rfl) (.tmp rfl)) (fun _ => ?_)
      refine WL.sealed (t := tapi_Id) (u := from0_.1) 7 7 rfl rfl ?_
      refine WL.gv rfl rfl ?_
      refine WL.nr ?_
      refine WL.op rfl (Op1.load ty24 (.tmp rfl)) ?_
      refine WL.mv rfl rfl ?_
      obtain ⟨to1, hv12, hm⟩ := bind_some hm
      refine WL.op rfl (Op1.call Tryd.call13 (r47_To_spec _ _ _ _ hv12) ⟨(.tmp rfl), (.tmp rfl), trivial⟩) ?_
      refine WL.mv rfl rfl ?_
      refine WL.op rfl (Op1.extract0 (.tmp rfl)) ?_
      refine WL.op rfl (Op1.extract1 (.tmp rfl)) ?_
      refine WL.opR rfl (OpR.alloc 9 ze24) (fun b2 => ?_)
      refine WL.opU (OpR.storeB (b := b2) 9 Tryd.sizeOf24 (Cellable.is tapi_Id to1.1) rfl (.tmp rfl) (.tmp rfl)) (fun _ => ?_)
      refine WL.sealed (t := tapi_Id) (u := to1.1) 9 9 rfl rfl ?_
      refine WL.gv rfl rfl ?_
      refine WL.ns ?_
      refine W.seq ?_
      obtain ⟨back, hv13, hm⟩ := bind_some hm
      obtain ⟨to2, hv14, hm⟩ := bind_some hm
      refine W.weakR (res' := []) trivial ?_
      refine W.drawM [.c (tapi_Id.is id), .c ((tL tapi_Destination).is l), .c ((tL tapi_Destination).is back), .c (Asn.tuple2 (tapi_Id.is to2.1) (tB.is to2.2)), .c (Asn.tuple2 (tapi_Id.is to2.1) (tB.is to2.2)), .c (tapi_Id.is to2.1), .c (tB.is to2.2), .f (fun cv => (Bp (bk (cv 0)) 0)), .c Asn.any, .c (tB.is to2.2)] [([], [3]), ([], [0]), ([1], []), ([0, 2], []), ([3], []), ([4], []), ([4], []), ([], []), ([5, 7], []), ([6], [])] [7, 8] [[], [], [], [], [], [], [], [true], [], []] (fun m cv => match m with | 0 => [] | 1 => [(11, (Bx 3 true 24 (tapi_Id.is zapi_Id) (bk (cv 0))))] | _ => [(11, (Bx 3 true 24 (tapi_Id.is to2.1) (bk (cv 0))))]) (fun _ => none) Tryd.mixed rfl rfl rfl rfl rfl ⟨fun _ _ _ _ => rfl, ⟨fun _ _ _ _ => rfl, ⟨fun _ _ _ _ => rfl, ⟨fun _ _ _ _ => rfl, ⟨fun _ _ _ _ => rfl, ⟨fun _ _ _ _ => rfl, ⟨fun _ _ _ _ => rfl, ⟨fun m hm c t => by simp only [DA.at, upd_dep (r := [true]) (j := 0) rfl hm], ⟨fun _ _ _ _ => rfl, ⟨fun _ _ _ _ => rfl, trivial⟩⟩⟩⟩⟩⟩⟩⟩⟩⟩ rfl ⟨.inr ⟨fun cv => [], (fun _ _ _ _ => trivial), fun cv => Op1.load ty24 (.tmp rfl)⟩, ⟨.inr ⟨fun cv => [], (fun _ _ _ _ => trivial), fun cv => Op1.move (.tmp rfl)⟩, ⟨.inr ⟨fun cv => [], (fun _ _ _ _ => trivial), fun cv => Op1.call Tryd.call14 (r47_Back_spec _ _ _ hv13) ⟨(.tmp rfl), trivial⟩⟩, ⟨.inr ⟨fun cv => [], (fun _ _ _ _ => trivial), fun cv => Op1.call Tryd.call13 (r47_To_spec _ _ _ _ hv14) ⟨(.tmp rfl), (.tmp rfl), trivial⟩⟩, ⟨.inr ⟨fun cv => [], (fun _ _ _ _ => trivial), fun cv => Op1.move (.tmp rfl)⟩, ⟨.inr ⟨fun cv => [], (fun _ _ _ _ => trivial), fun cv => Op1.extract0 (.tmp rfl)⟩, ⟨.inr ⟨fun cv => [], (fun _ _ _ _ => trivial), fun cv => Op1.extract1 (.tmp rfl)⟩, ⟨.inl rfl, ⟨.inl rfl, ⟨.inr ⟨fun cv => [], (fun _ _ _ _ => trivial), fun cv => Op1.assign (.tmp rfl)⟩, trivial⟩⟩⟩⟩⟩⟩⟩⟩⟩⟩ ⟨⟨_, _, _, [], (fun cv => [(11, (Bx 3 true 24 (tapi_Id.is zapi_Id) (bk (cv 0))))]), rfl, rfl, rfl, rfl, fun _ => rfl, fun _ _ => rfl, fun cv => OpR.viaB (OpR.alloc 11 ze24)⟩, ⟨⟨_, _, _, [11], (fun cv => [(11, (Bx 3 true 24 (tapi_Id.is to2.1) (bk (cv 0))))]), rfl, rfl, rfl, rfl, fun _ => rfl, fun _ _ => rfl, fun cv => OpR.viaU (OpR.storeB (b := (bk (cv 0))) 11 Tryd.sizeOf24 (Cellable.is tapi_Id to2.1) rfl (.tmp rfl) (.tmp rfl))⟩, trivial⟩⟩ (fun cv => ?_)
      refine WN.seq ?_
      refine W.sr ?_
      refine WL.mv rfl rfl ?_
      obtain ⟨valid, hv15, hm⟩ := bind_some hm
      refine WL.op rfl (Op1.call Tryd.call15 (destinations_Valid_spec _ _ hv15) ⟨(.tmp rfl), trivial⟩) ?_
      refine WL.mv rfl rfl ?_
      obtain ⟨may, hv16, hm⟩ := bind_some hm
      refine WL.op rfl (Op1.call Tryd.call16 (r47_May_spec _ _ _ hv16) ⟨(.tmp rfl), trivial⟩) ?_
      refine WL.op rfl (Op1.eqB Tryd.underlying4 (.tmp rfl) (.tmp rfl)) ?_
      refine WL.mv rfl rfl ?_
      rcases bcases (valid == may) with hb17 | hb17
      · have hp18 := hb17
        rw [if_pos hp18] at hm
        refine WL.run rfl rfl rfl rfl hb17 rfl rfl (Op1.load ty24 (.tmp rfl)) ?_
        refine WL.run rfl rfl rfl rfl hb17 rfl rfl (Op1.load ty24 (.tmp rfl)) ?_
        refine WL.run rfl rfl rfl rfl hb17 rfl rfl (Op1.eqSt (D := 2) rfl (by decide) eg24 eq24 (.tmp rfl) (.tmp rfl)) ?_
        refine WL.op rfl (Op1.pickT (.tmp rfl) hb17 (.tmp rfl)) ?_
        refine WL.mv rfl rfl ?_
        rcases bcases (decide (to.1 = to1.1)) with hb19 | hb19
        · have hp20 := of_decide_eq_true hb19
          rw [if_pos hp20] at hm
          refine WL.run rfl rfl rfl rfl hb19 rfl rfl (Op1.move (.tmp rfl)) ?_
          refine WL.run rfl rfl rfl rfl hb19 rfl rfl (Op1.move (.tmp rfl)) ?_
          refine WL.run rfl rfl rfl rfl hb19 rfl rfl (Op1.eqB Tryd.underlying4 (.tmp rfl) (.tmp rfl)) ?_
          refine WL.op rfl (Op1.pickT (.tmp rfl) hb19 (.tmp rfl)) ?_
          refine WL.mv rfl rfl ?_
          rcases bcases (to.2 == to1.2) with hb21 | hb21
          · have hp22 := hb21
            rw [if_pos hp22] at hm
            refine WL.run rfl rfl rfl rfl hb21 rfl rfl (Op1.load ty24 (.tmp rfl)) ?_
            refine WL.run rfl rfl rfl rfl hb21 rfl rfl (Op1.loadB 11 Tryd.isAgg24 Tryd.sizeOf24 rfl (.tmp rfl)) ?_
            refine WL.run rfl rfl rfl rfl hb21 rfl rfl (Op1.eqSt (D := 2) rfl (by decide) eg24 eq24 (.tmp rfl) (.tmp rfl)) ?_
            refine WL.op rfl (Op1.pickT (.tmp rfl) hb21 (.tmp rfl)) ?_
            refine WL.mv rfl rfl ?_
            rcases bcases (decide (from0_.1 = to2.1)) with hb23 | hb23
            · have hp24 := of_decide_eq_true hb23
              rw [if_pos hp24] at hm
              refine WL.run rfl rfl rfl rfl hb23 rfl rfl (Op1.move (.tmp rfl)) ?_
              refine WL.run rfl rfl rfl rfl hb23 rfl rfl (Op1.move (.tmp rfl)) ?_
              refine WL.run rfl rfl rfl rfl hb23 rfl rfl (Op1.eqB Tryd.underlying4 (.tmp rfl) (.tmp rfl)) ?_
              refine WL.op rfl (Op1.pickT (.tmp rfl) hb23 (.tmp rfl)) ?_
              refine WL.gv rfl rfl ?_
              refine WL.ns ?_
              cases hm
              exact W.ret1 () rfl (.tmp rfl) trivial
            · have hp24 := of_decide_eq_false hb23
              rw [if_neg hp24] at hm
              refine WL.pass rfl rfl rfl rfl hb23 rfl rfl ?_
              refine WL.pass rfl rfl rfl rfl hb23 rfl rfl ?_
              refine WL.pass rfl rfl rfl rfl hb23 rfl rfl ?_
              refine WL.op rfl (Op1.pickF (.tmp rfl) hb23 .bool) ?_
              refine WL.gv rfl rfl ?_
              refine WL.ns ?_
              cases hm
              exact W.ret1 () rfl (.tmp rfl) trivial
          · have hp22 := ne_of_false hb21
            rw [if_neg hp22] at hm
            refine WL.pass rfl rfl rfl rfl hb21 rfl rfl ?_
            refine WL.pass rfl rfl rfl rfl hb21 rfl rfl ?_
            refine WL.pass rfl rfl rfl rfl hb21 rfl rfl ?_
            refine WL.op rfl (Op1.pickF (.tmp rfl) hb21 .bool) ?_
            refine WL.mv rfl rfl ?_
            refine WL.pass rfl rfl rfl rfl rfl rfl rfl ?_
            refine WL.pass rfl rfl rfl rfl rfl rfl rfl ?_
            refine WL.pass rfl rfl rfl rfl rfl rfl rfl ?_
            refine WL.op rfl (Op1.pickF (.tmp rfl) rfl .bool) ?_
            refine WL.gv rfl rfl ?_
            refine WL.ns ?_
            cases hm
            exact W.ret1 () rfl (.tmp rfl) trivial
        · have hp20 := of_decide_eq_false hb19
          rw [if_neg hp20] at hm
          refine WL.pass rfl rfl rfl rfl hb19 rfl rfl ?_
          refine WL.pass rfl rfl rfl rfl hb19 rfl rfl ?_
          refine WL.pass rfl rfl rfl rfl hb19 rfl rfl ?_
          refine WL.op rfl (Op1.pickF (.tmp rfl) hb19 .bool) ?_
          refine WL.mv rfl rfl ?_
          refine WL.pass rfl rfl rfl rfl rfl rfl rfl ?_
          refine WL.pass rfl rfl rfl rfl rfl rfl rfl ?_
          refine WL.pass rfl rfl rfl rfl rfl rfl rfl ?_
          refine WL.op rfl (Op1.pickF (.tmp rfl) rfl .bool) ?_
          refine WL.mv rfl rfl ?_
          refine WL.pass rfl rfl rfl rfl rfl rfl rfl ?_
          refine WL.pass rfl rfl rfl rfl rfl rfl rfl ?_
          refine WL.pass rfl rfl rfl rfl rfl rfl rfl ?_
          refine WL.op rfl (Op1.pickF (.tmp rfl) rfl .bool) ?_
          refine WL.gv rfl rfl ?_
          refine WL.ns ?_
          cases hm
          exact W.ret1 () rfl (.tmp rfl) trivial
      · have hp18 := ne_of_false hb17
        rw [if_neg hp18] at hm
        refine WL.pass rfl rfl rfl rfl hb17 rfl rfl ?_
        refine WL.pass rfl rfl rfl rfl hb17 rfl rfl ?_
        refine WL.pass rfl rfl rfl rfl hb17 rfl rfl ?_
        refine WL.op rfl (Op1.pickF (.tmp rfl) hb17 .bool) ?_
        refine WL.mv rfl rfl ?_
        refine WL.pass rfl rfl rfl rfl rfl rfl rfl ?_
        refine WL.pass rfl rfl rfl rfl rfl rfl rfl ?_
        refine WL.pass rfl rfl rfl rfl rfl rfl rfl ?_
        refine WL.op rfl (Op1.pickF (.tmp rfl) rfl .bool) ?_
        refine WL.mv rfl rfl ?_
        refine WL.pass rfl rfl rfl rfl rfl rfl rfl ?_
        refine WL.pass rfl rfl rfl rfl rfl rfl rfl ?_
        refine WL.pass rfl rfl rfl rfl rfl rfl rfl ?_
        refine WL.op rfl (Op1.pickF (.tmp rfl) rfl .bool) ?_
        refine WL.mv rfl rfl ?_
        refine WL.pass rfl rfl rfl rfl rfl rfl rfl ?_
        refine WL.pass rfl rfl rfl rfl rfl rfl rfl ?_
        refine WL.pass rfl rfl rfl rfl rfl rfl rfl ?_
        refine WL.op rfl (Op1.pickF (.tmp rfl) rfl .bool) ?_
        refine WL.gv rfl rfl ?_
        refine WL.ns ?_
        cases hm
        exact W.ret1 () rfl (.tmp rfl) trivial
  · have hm := hs2
    clear hs2
    refine W.region ?_
    obtain ⟨awake, hv4, hm⟩ := bind_some hm
    refine WL.op rfl (Op1.call Tryd.call10 (law47_awake_spec _ _ hv4) trivial) ?_
    refine WL.op rfl (Op1.notB (.tmp rfl)) ?_
    refine WL.mv rfl rfl ?_
    rcases bcases (!awake) with hb5 | hb5
    · have hp6 := not_pos hb5
      rw [if_pos hp6] at hm
      refine WL.pass rfl rfl rfl rfl hb5 rfl rfl ?_
      refine WL.pass rfl rfl rfl rfl hb5 rfl rfl ?_
      refine WL.pass rfl rfl rfl rfl hb5 rfl rfl ?_
      refine WL.op rfl (Op1.pickT (.tmp rfl) hb5 .bool) ?_
      refine WL.nil ?_
      exact WN.meet true (Option.some.inj hm) ⟨Ent.q rfl, Ent.q rfl, Ent.q rfl, trivial⟩ trivial
    · have hp6 := not_neg hb5
      rw [if_neg hp6] at hm
      refine WL.run rfl rfl rfl rfl hb5 rfl rfl (Op1.move (.tmp rfl)) ?_
      refine WL.run rfl rfl rfl rfl hb5 rfl rfl (Op1.lenL Tryd.underlying22 (.tmp rfl)) ?_
      refine WL.run rfl rfl rfl rfl hb5 rfl rfl (Op1.gtI (.tmp rfl) (.int (inR64.2 (by omega)))) ?_
      refine WL.op rfl (Op1.pickF (.tmp rfl) hb5 (.tmp rfl)) ?_
      refine WL.nil ?_
      exact WN.meet (decide ((60 : Int) < (l.length : Int))) (Option.some.inj hm) ⟨Ent.q rfl, Ent.q rfl, Ent.q rfl, trivial⟩ trivial

theorem destinations_Invert_spec (l : List api_Destination) (r : (List api_Destination)) (hm : M.destinations_Invert l = some r) : FSpec Tryd.prog 17 [((tL tapi_Destination).is l)] ((tL tapi_Destination).is r) := by
  unfold M.destinations_Invert at hm
  refine FSpec.of Tryd.func17 rfl rfl rfl (fun g0 => ?_)
  refine W.sr ?_
  refine WL.op rfl (Op1.assign (.nil (t := tapi_Destination))) ?_
  refine WL.nr ?_
  refine WL.addNil (t := tapi_Destination) (E := 36) 3 ?_
  refine WL.op rfl (Op1.assign (Opd.nilO (t := tapi_Destination))) ?_
  refine WL.ns ?_
  refine W.seq ?_
  refine W.sr ?_
  refine WL.mv rfl rfl ?_
  refine WL.op rfl (Op1.lenL Tryd.underlying22 (.tmp rfl)) ?_
  refine WL.op rfl (Op1.move (.int (inR64.2 (by omega)))) ?_
  refine WL.ns ?_
  refine W.block ?_
  obtain ⟨s1, hs2, hk3⟩ := bind_some hm
  clear hm
  refine W.loop (fun m (s : Int × List api_Destination × List api_Destination × (((List api_Destination)) × Tok)) => m = s.2.2.1.length ∧ l = s.2.1 ++ s.2.2.1 ∧ s.1 = (s.2.1.length : Int) ∧ M.destinations_Invert_loop1 s.2.2.1 s.2.2.2.1 = some s1) (fun s => [(8, ((tI .i64).is s.1)), (3, (tO tapi_Destination s.2.2.2.2 s.2.2.2.1)), (6, ((tL tapi_Destination).is l)), (7, ((tI .i64).is (l.length : Int)))]) (fun s => [(3, Own tapi_Destination 36 s.2.2.2.2 s.2.2.2.1.length)]) l.length ((0 : Int), [], l, (([] : List api_Destination), (none : Tok))) ⟨rfl, rfl, rfl, hs2⟩ ⟨Ent.q rfl, Ent.q rfl, Ent.q rfl, Ent.q rfl, trivial⟩ ⟨rfl, rfl, trivial⟩ ?_
  rintro m ⟨i, pre, rest1, ⟨out, k⟩⟩ ⟨hn7, hxs4, hi5, hm⟩
  try dsimp only at hn7 hxs4 hi5 hm
  change W _ _ _ _ _ _ _ [(8, ((tI .i64).is i)), (3, (tO tapi_Destination k out)), (6, ((tL tapi_Destination).is l)), (7, ((tI .i64).is (l.length : Int)))] [(3, Own tapi_Destination 36 k out.length)]
  refine W.lenL (s := 6) (.tmp rfl) fun hlen6 => ?_
  refine W.sr ?_
  refine WL.op rfl (Op1.ltI (.tmp rfl) (.tmp rfl)) ?_
  refine WL.ns ?_
  refine W.seq ?_
  refine W.cond (.tmp rfl) (fun hc9 => ?_) (fun hc9 => ?_)
  · have hp10 := of_decide_eq_true hc9
    obtain ⟨e, es, hrest12⟩ := range_more hxs4 hi5 hp10
    subst hrest12
    rw [M.destinations_Invert_loop1.eq_2] at hm
    refine W.skip ?_
    refine WN.seq ?_
    refine W.seq ?_
    refine W.block ?_
    refine W.sr ?_
    refine WL.op rfl (Op1.idxPre hxs4 hi5 Tryd.underlying22 Tryd.sizeOf36 (.tmp rfl) (.tmp rfl)) ?_
    refine WL.op rfl (Op1.load ty36 (.tmp rfl)) ?_
    refine WL.opR rfl (OpR.alloc 5 ze36) (fun b => ?_)
    refine WL.opU (OpR.storeB (b := b) 5 Tryd.sizeOf36 (Cellable.is tapi_Destination e) rfl (.tmp rfl) (.tmp rfl)) (fun _ => ?_)
    refine WL.sealed (t := tapi_Destination) (u := e) 5 5 rfl rfl ?_
    refine WL.nr1 ?_
    refine WL.mv rfl rfl ?_
    refine WL.op rfl (Op1.fieldAddr Tryd.underlying36 rfl (fun w => ⟨2, Tryd.sizeOf24 w⟩) fapi_Destination_1 (.tmp rfl)) ?_
    refine WL.op rfl (Op1.load ty24 (.tmp rfl)) ?_
    refine WL.op rfl (Op1.fieldAddr Tryd.underlying36 rfl (fun w => ⟨2, Tryd.sizeOf24 w⟩) fapi_Destination_0 (.tmp rfl)) ?_
    refine WL.op rfl (Op1.load ty24 (.tmp rfl)) ?_
    refine WL.op rfl (Op1.build (s := tapi_Destination) (x := (⟨e.To, e.From⟩ : api_Destination)) zapi_Destination_f rfl Tryd.underlying36 (zapi_Destination_sz _ Tryd.underlying36) ze36 ⟨_, tapi_Id, e.To, _, _, rfl, Tryd.sizeOf24, (.tmp rfl), sapi_Destination_0, ⟨_, tapi_Id, e.From, _, _, rfl, Tryd.sizeOf24, (.tmp rfl), sapi_Destination_1, rfl⟩⟩) ?_
    refine WL.op rfl (Op1.buildSlice (n := 1) (ys := [(0, (⟨e.To, e.From⟩ : api_Destination))]) (z := zapi_Destination) (xs := [(⟨e.To, e.From⟩ : api_Destination)]) Tryd.underlying22 el36 ze36 ⟨rfl, (.tmp rfl), trivial⟩ (by simp) (by decide) rfl) ?_
    obtain ⟨out1, hv13, hm⟩ := bind_some hm
    refine WL.opR rfl (OpR.appC (key := 3) hv13 Tryd.underlying22 el36 (.tmp rfl) (.tmp rfl) rfl) (fun k1 => ?_)
    refine WL.gv rfl rfl ?_
    refine WL.nil ?_
    refine WN.block ?_
    refine WN.seq ?_
    refine W.region ?_
    refine WL.op rfl (Op1.addI (.tmp rfl) (.int (inR64.2 (by omega))) (range_inR hi5 hp10 hlen6)) ?_
    refine WL.mv rfl rfl ?_
    refine WL.nil ?_
    exact WN.again es.length (i + 1, pre ++ [e], es, (out1, k1)) (range_lt hn7) ⟨rfl, range_step hxs4, range_idx hi5, hm⟩ ⟨Ent.q rfl, Ent.q rfl, Ent.q rfl, Ent.q rfl, trivial⟩ ⟨rfl, rfl, trivial⟩
  · have hrest12 := range_end hxs4 hi5 (of_decide_eq_false hc9)
    subst hrest12
    rw [M.destinations_Invert_loop1.eq_1] at hm
    refine W.exit rfl ?_
    have hr14 := Option.some.inj hm
    clear hm
    subst hr14
    have hm := hk3
    try dsimp only at hm
    refine WN.seq ?_
    refine W.sr ?_
    refine WL.mv rfl rfl ?_
    refine WL.gv rfl rfl ?_
    refine WL.ns ?_
    cases hm
    exact W.ret1 () rfl (Opd.own (.tmp rfl)) trivial

theorem r47_Same_spec (n : Nat) (a : List api_Destination) (b : List api_Destination) (r : Bool) (hm : M.r47_Same n a b = some r) : FSpec Tryd.prog 18 [((tL tapi_Destination).is a), ((tL tapi_Destination).is b)] (tB.is r) := by
  unfold M.r47_Same at hm
  refine FSpec.of Tryd.func18 rfl rfl rfl (fun g0 => ?_)
  refine W.sr ?_
  refine WL.op rfl (Op1.assign .bool) ?_
  refine WL.ns ?_
  refine W.seq ?_
  refine W.sr ?_
  refine WL.mv rfl rfl ?_
  refine WL.op rfl (Op1.lenL Tryd.underlying22 (.tmp rfl)) ?_
  refine WL.mv rfl rfl ?_
  refine WL.op rfl (Op1.lenL Tryd.underlying22 (.tmp rfl)) ?_
  refine WL.op rfl (Op1.neI (.tmp rfl) (.tmp rfl)) ?_
  refine WL.ns ?_
  refine W.cond (.tmp rfl) (fun hc1 => ?_) (fun hc1 => ?_)
  · have hp2 := of_decide_eq_true hc1
    rw [if_pos hp2] at hm
    refine W.sr ?_
    refine WL.op rfl (Op1.assign .bool) ?_
    refine WL.ns ?_
    cases hm
    exact W.ret1 () rfl (.tmp rfl) trivial
  · have hp2 := of_decide_eq_false hc1
    rw [if_neg hp2] at hm
    refine W.skip ?_
    refine WN.seq ?_
    refine W.seq ?_
    refine W.sr ?_
    refine WL.op rfl (Op1.assign (.int (inR64.2 (by omega)))) ?_
    refine WL.ns ?_
    refine W.block ?_
    obtain ⟨s3, hs4, hk5⟩ := bind_some hm
    clear hm
    refine W.loop (fun m (s : Int) => M.r47_Same_loop1 a b m s = some s3) (fun s => [(5, ((tI .i64).is s)), (0, ((tL tapi_Destination).is a)), (1, ((tL tapi_Destination).is b))]) (fun s => []) _ (0 : Int) hs4 ⟨Ent.q rfl, Ent.q rfl, Ent.q rfl, trivial⟩ trivial ?_
    rintro n6 i hm
    try dsimp only at hm
    change W _ _ _ _ _ _ _ [(5, ((tI .i64).is i)), (0, ((tL tapi_Destination).is a)), (1, ((tL tapi_Destination).is b))] []
    cases n6 with
    | zero => rw [M.r47_Same_loop1.eq_1] at hm; cases hm
    | succ n6 =>
      rw [M.r47_Same_loop1.eq_2] at hm
      refine W.seq ?_
      refine W.sr ?_
      refine WL.mv rfl rfl ?_
      refine WL.mv rfl rfl ?_
      refine WL.op rfl (Op1.lenL Tryd.underlying22 (.tmp rfl)) ?_
      refine WL.op rfl (Op1.ltI (.tmp rfl) (.tmp rfl)) ?_
      refine WL.ns ?_
      refine W.cond (.tmp rfl) (fun hc7 => ?_) (fun hc7 => ?_)
      · have hp8 := of_decide_eq_true hc7
        rw [if_pos hp8] at hm
        refine W.skip ?_
        refine WN.seq ?_
        refine W.seq ?_
        refine W.block ?_
        refine W.seq ?_
        obtain ⟨v, hv9, hm⟩ := bind_some hm
        obtain ⟨v1, hv10, hm⟩ := bind_some hm
        refine W.draw [.c ((tL tapi_Destination).is a), .c ((tI .i64).is i), .c (tapi_Destination.ptr v), .c (tapi_Destination.is v), .c ((tL tapi_Destination).is b), .c ((tI .i64).is i), .c (tapi_Destination.ptr v1), .c (tapi_Destination.is v1), .c (tB.is (decide (v ≠ v1)))] [([], [0]), ([], [5]), ([0, 1], []), ([2], []), ([], [1]), ([], [5]), ([4, 5], []), ([6], []), ([3, 7], [])] Tryd.mixed rfl rfl rfl rfl ⟨.inr (Op1.move (.tmp rfl)), .inr (Op1.move (.tmp rfl)), .inr (Op1.idx hv9 Tryd.underlying22 Tryd.sizeOf36 (.tmp rfl) (.tmp rfl)), .inr (Op1.load ty36 (.tmp rfl)), .inr (Op1.move (.tmp rfl)), .inr (Op1.move (.tmp rfl)), .inr (Op1.idx hv10 Tryd.underlying22 Tryd.sizeOf36 (.tmp rfl) (.tmp rfl)), .inr (Op1.load ty36 (.tmp rfl)), .inr (Op1.neSt (D := 3) rfl (by decide) eg36 eq36 (.tmp rfl) (.tmp rfl)), trivial⟩ ?_
        refine WN.seq ?_
        refine W.cond (.tmp rfl) (fun hc11 => ?_) (fun hc11 => ?_)
        · have hp12 := of_decide_eq_true hc11
          rw [if_pos hp12] at hm
          refine W.sr ?_
          refine WL.op rfl (Op1.assign .bool) ?_
          refine WL.ns ?_
          have hr13 := Option.some.inj hm
          clear hm
          subst hr13
          have hm := hk5
          try dsimp only at hm
          cases hm
          exact W.ret1 () rfl (.tmp rfl) trivial
        · have hp12 := of_decide_eq_false hc11
          rw [if_neg hp12] at hm
          refine W.skip ?_
          refine WN.block ?_
          refine WN.seq ?_
          refine W.region ?_
          refine WL.mv rfl rfl ?_
          refine WL.lenL (s := 0) (.tmp rfl) fun hl14 => ?_
          refine WL.op rfl (Op1.addI1 (.tmp rfl) (.int (inR64.2 (by omega))) hp8 hl14) ?_
          refine WL.gv rfl rfl ?_
          refine WL.nil ?_
          exact WN.again n6 (i + 1) (Nat.lt_succ_self n6) hm ⟨Ent.q rfl, Ent.q rfl, Ent.q rfl, trivial⟩ trivial
      · have hp8 := of_decide_eq_false hc7
        rw [if_neg hp8] at hm
        refine W.exit rfl ?_
        have hr15 := Option.some.inj hm
        clear hm
        subst hr15
        have hm := hk5
        try dsimp only at hm
        refine WN.seq ?_
        refine W.sr ?_
        refine WL.op rfl (Op1.assign .bool) ?_
        refine WL.ns ?_
        cases hm
        exact W.ret1 () rfl (.tmp rfl) trivial

theorem law47_DestinationsInvert_spec (n : Nat) (l : List api_Destination) (r : Bool) (hm : M.law47_DestinationsInvert n l = some r) : FSpec Tryd.prog 4 [((tL tapi_Destination).is l)] (tB.is r) := by
  unfold M.law47_DestinationsInvert at hm
  refine FSpec.of Tryd.func4 rfl rfl rfl (fun g0 => ?_)
  refine W.sr ?_
  refine WL.op rfl (Op1.assign .bool) ?_
  refine WL.ns ?_
  refine W.seq ?_
  obtain ⟨s1, hs2, hk3⟩ := bind_some hm
  clear hm
  refine W.join (fun s : Bool => s = s1) (fun s => [(16, (tB.is s)), (0, ((tL tapi_Destination).is l))]) (fun s => []) ?_ ?_
  · rintro v hj57
    try dsimp only at hj57
    subst hj57
    have hm := hk3
    clear hk3
    try dsimp only at hm
    change W _ _ _ _ _ _ _ [(16, (tB.is v)), (0, ((tL tapi_Destination).is l))] []
    refine W.cond (.tmp rfl) (fun hc7 => ?_) (fun hc7 => ?_)
    · have hp8 := hc7
      rw [if_pos hp8] at hm
      refine W.sr ?_
      obtain ⟨awake1, hv9, hm⟩ := bind_some hm
      refine WL.op rfl (Op1.call Tryd.call10 (law47_awake_spec _ _ hv9) trivial) ?_
      refine WL.gv rfl rfl ?_
      refine WL.ns ?_
      cases hm
      exact W.ret1 () rfl (.tmp rfl) trivial
    · have hp8 := ne_of_false hc7
      rw [if_neg hp8] at hm
      refine W.skip ?_
      refine WN.seq ?_
      refine W.sr ?_
      refine WL.mv rfl rfl ?_
      obtain ⟨invert, hv10, hm⟩ := bind_some hm
      refine WL.op rfl (Op1.call Tryd.call17 (destinations_Invert_spec _ _ hv10) ⟨(.tmp rfl), trivial⟩) ?_
      refine WL.gv rfl rfl ?_
      refine WL.ns ?_
      refine W.seq ?_
      obtain ⟨s11, hs12, hk13⟩ := bind_some hm
      clear hm
      refine W.join (fun s : Bool => s = s11) (fun s => [(38, (tB.is s)), (0, ((tL tapi_Destination).is l))]) (fun s => []) ?_ ?_
      · rintro v1 hj56
        try dsimp only at hj56
        subst hj56
        have hm := hk13
        clear hk13
        try dsimp only at hm
        change W _ _ _ _ _ _ _ [(38, (tB.is v1)), (0, ((tL tapi_Destination).is l))] []
        refine W.cond (.tmp rfl) (fun hc24 => ?_) (fun hc24 => ?_)
        · have hp25 := hc24
          rw [if_pos hp25] at hm
          refine W.sr ?_
          refine WL.op rfl (Op1.assign .bool) ?_
          refine WL.ns ?_
          cases hm
          exact W.ret1 () rfl (.tmp rfl) trivial
        · have hp25 := ne_of_false hc24
          rw [if_neg hp25] at hm
          refine W.skip ?_
          refine WN.seq ?_
          refine W.seq ?_
          refine W.sr ?_
          refine WL.mv rfl rfl ?_
          obtain ⟨valid2, hv26, hm⟩ := bind_some hm
          refine WL.op rfl (Op1.call Tryd.call15 (destinations_Valid_spec _ _ hv26) ⟨(.tmp rfl), trivial⟩) ?_
          refine WL.op rfl (Op1.notB (.tmp rfl)) ?_
          refine WL.ns ?_
          refine W.cond (.tmp rfl) (fun hc27 => ?_) (fun hc27 => ?_)
          · have hp28 := not_pos hc27
            rw [if_pos hp28] at hm
            refine W.sr ?_
            refine WL.op rfl (Op1.assign .bool) ?_
            refine WL.ns ?_
            cases hm
            exact W.ret1 () rfl (.tmp rfl) trivial
          · have hp28 := not_neg hc27
            rw [if_neg hp28] at hm
            refine W.skip ?_
            refine WN.seq ?_
            refine W.seq ?_
            refine W.sr ?_
            refine WL.mv rfl rfl ?_
            refine WL.op rfl (Op1.lenL Tryd.underlying22 (.tmp rfl)) ?_
            refine WL.op rfl (Op1.move (.int (inR64.2 (by omega)))) ?_
            refine WL.ns ?_
            refine W.block ?_
            obtain ⟨s29, hs30, hk31⟩ := bind_some hm
            clear hm
            refine W.loop (fun m (s : Int × List api_Destination × List api_Destination × Unit) => m = s.2.2.1.length ∧ l = s.2.1 ++ s.2.2.1 ∧ s.1 = (s.2.1.length : Int) ∧ M.law47_DestinationsInvert_loop1 n l s.2.2.1 = some s29) (fun s => [(44, ((tI .i64).is s.1)), (0, ((tL tapi_Destination).is l)), (42, ((tL tapi_Destination).is l)), (43, ((tI .i64).is (l.length : Int)))]) (fun s => []) l.length ((0 : Int), [], l, ()) ⟨rfl, rfl, rfl, hs30⟩ ⟨Ent.q rfl, Ent.q rfl, Ent.q rfl, Ent.q rfl, trivial⟩ trivial ?_
            rintro m ⟨i, pre, rest1, _⟩ ⟨hn35, hxs32, hi33, hm⟩
            try dsimp only at hn35 hxs32 hi33 hm
            change W _ _ _ _ _ _ _ [(44, ((tI .i64).is i)), (0, ((tL tapi_Destination).is l)), (42, ((tL tapi_Destination).is l)), (43, ((tI .i64).is (l.length : Int)))] []
            refine W.lenL (s := 42) (.tmp rfl) fun hlen34 => ?_
            refine W.sr ?_
            refine WL.op rfl (Op1.ltI (.tmp rfl) (.tmp rfl)) ?_
            refine WL.ns ?_
            refine W.seq ?_
            refine W.cond (.tmp rfl) (fun hc37 => ?_) (fun hc37 => ?_)
            · have hp38 := of_decide_eq_true hc37
              obtain ⟨e, es, hrest40⟩ := range_more hxs32 hi33 hp38
              subst hrest40
              rw [M.law47_DestinationsInvert_loop1.eq_2] at hm
              refine W.skip ?_
              refine WN.seq ?_
              refine W.seq ?_
              refine W.block ?_
              refine W.sr ?_
              refine WL.op rfl (Op1.idxPre hxs32 hi33 Tryd.underlying22 Tryd.sizeOf36 (.tmp rfl) (.tmp rfl)) ?_
              refine WL.op rfl (Op1.load ty36 (.tmp rfl)) ?_
              refine WL.opR rfl (OpR.alloc 5 ze36) (fun b => ?_)
              refine WL.opU (OpR.storeB (b := b) 5 Tryd.sizeOf36 (Cellable.is tapi_Destination e) rfl (.tmp rfl) (.tmp rfl)) (fun _ => ?_)
              refine WL.sealed (t := tapi_Destination) (u := e) 5 5 rfl rfl ?_
              refine WL.nr ?_
              refine WL.op rfl (Op1.fieldAddr Tryd.underlying36 rfl (fun w => ⟨2, Tryd.sizeOf24 w⟩) fapi_Destination_0 (.tmp rfl)) ?_
              refine WL.op rfl (Op1.load ty24 (.tmp rfl)) ?_
              refine WL.mv rfl rfl ?_
              obtain ⟨to, hv41, hm⟩ := bind_some hm
              refine WL.op rfl (Op1.call Tryd.call11 (destinations_To_spec _ _ _ _ hv41) ⟨(.tmp rfl), (.tmp rfl), trivial⟩) ?_
              refine WL.mv rfl rfl ?_
              refine WL.op rfl (Op1.extract0 (.tmp rfl)) ?_
              refine WL.op rfl (Op1.extract1 (.tmp rfl)) ?_
              refine WL.opR rfl (OpR.alloc 6 ze24) (fun b1 => ?_)
              refine WL.opU (OpR.storeB (b := b1) 6 Tryd.sizeOf24 (Cellable.is tapi_Id to.1) rfl (.tmp rfl) (.tmp rfl)) (fun _ => ?_)
              refine WL.sealed (t := tapi_Id) (u := to.1) 6 6 rfl rfl ?_
              refine WL.gv rfl rfl ?_
              refine WL.nr ?_
              refine WL.op rfl (Op1.load ty24 (.tmp rfl)) ?_
              refine WL.mv rfl rfl ?_
              obtain ⟨from0_, hv42, hm⟩ := bind_some hm
              refine WL.op rfl (Op1.call Tryd.call12 (destinations_From_spec _ _ _ _ hv42) ⟨(.tmp rfl), (.tmp rfl), trivial⟩) ?_
              refine WL.mv rfl rfl ?_
              refine WL.op rfl (Op1.extract0 (.tmp rfl)) ?_
              refine WL.op rfl (Op1.extract1 (.tmp rfl)) ?_
              refine WL.opR rfl (OpR.alloc 8 ze24) (fun b2 => ?_)
              refine WL.opU (OpR.storeB (b := b2) 8 Tryd.sizeOf24 (Cellable.is tapi_Id from0_.1) rfl (.tmp rfl) (.tmp rfl)) (fun _ => ?_)
              refine WL.sealed (t := tapi_Id) (u := from0_.1) 8 8 rfl rfl ?_
              refine WL.gv rfl rfl ?_
              refine WL.nr ?_
              refine WL.mv rfl rfl ?_
              refine WL.op rfl (Op1.notB (.tmp rfl)) ?_
              refine WL.mv rfl rfl ?_
              rcases bcases (!to.2) with hb43 | hb43
              · have hp44 := not_pos hb43
                rw [if_pos hp44] at hm
                refine WL.pass rfl rfl rfl rfl hb43 rfl rfl ?_
                refine WL.pass rfl rfl rfl rfl hb43 rfl rfl ?_
                refine WL.op rfl (Op1.pickT (.tmp rfl) hb43 .bool) ?_
                refine WL.mv rfl rfl ?_
                refine WL.pass rfl rfl rfl rfl rfl rfl rfl ?_
                refine WL.pass rfl rfl rfl rfl rfl rfl rfl ?_
                refine WL.pass rfl rfl rfl rfl rfl rfl rfl ?_
                refine WL.pass rfl rfl rfl rfl rfl rfl rfl ?_
                refine WL.op rfl (Op1.pickT (.tmp rfl) rfl .bool) ?_
                refine WL.mv rfl rfl ?_
                refine WL.pass rfl rfl rfl rfl rfl rfl rfl ?_
                refine WL.pass rfl rfl rfl rfl rfl rfl rfl ?_
                refine WL.pass rfl rfl rfl rfl rfl rfl rfl ?_
                refine WL.pass rfl rfl rfl rfl rfl rfl rfl ?_
                refine WL.op rfl (Op1.pickT (.tmp rfl) rfl .bool) ?_
                refine WL.ns ?_
                refine W.condT (.tmp rfl) ?_
                refine W.sr ?_
                refine WL.op rfl (Op1.assign .bool) ?_
                refine WL.ns ?_
                have hr45 := Option.some.inj hm
                clear hm
                subst hr45
                have hm := hk31
                try dsimp only at hm
                cases hm
                exact W.ret1 () rfl (.tmp rfl) trivial
              · have hp44 := not_neg hb43
                rw [if_neg hp44] at hm
                refine WL.run rfl rfl rfl rfl hb43 rfl rfl (Op1.move (.tmp rfl)) ?_
                refine WL.run rfl rfl rfl rfl hb43 rfl rfl (Op1.notB (.tmp rfl)) ?_
                refine WL.op rfl (Op1.pickF (.tmp rfl) hb43 (.tmp rfl)) ?_
                refine WL.mv rfl rfl ?_
                rcases bcases (!from0_.2) with hb46 | hb46
                · have hp47 := not_pos hb46
                  rw [if_pos hp47] at hm
                  refine WL.pass rfl rfl rfl rfl hb46 rfl rfl ?_
                  refine WL.pass rfl rfl rfl rfl hb46 rfl rfl ?_
                  refine WL.pass rfl rfl rfl rfl hb46 rfl rfl ?_
                  refine WL.pass rfl rfl rfl rfl hb46 rfl rfl ?_
                  refine WL.op rfl (Op1.pickT (.tmp rfl) hb46 .bool) ?_
                  refine WL.mv rfl rfl ?_
                  refine WL.pass rfl rfl rfl rfl rfl rfl rfl ?_
                  refine WL.pass rfl rfl rfl rfl rfl rfl rfl ?_
                  refine WL.pass rfl rfl rfl rfl rfl rfl rfl ?_
                  refine WL.pass rfl rfl rfl rfl rfl rfl rfl ?_
                  refine WL.op rfl (Op1.pickT (.tmp rfl) rfl .bool) ?_
                  refine WL.ns ?_
                  refine W.condT (.tmp rfl) ?_
                  refine W.sr ?_
                  refine WL.op rfl (Op1.assign .bool) ?_
                  refine WL.ns ?_
                  have hr48 := Option.some.inj hm
                  clear hm
                  subst hr48
                  have hm := hk31
                  try dsimp only at hm
                  cases hm
                  exact W.ret1 () rfl (.tmp rfl) trivial
                · have hp47 := not_neg hb46
                  rw [if_neg hp47] at hm
                  refine WL.run rfl rfl rfl rfl hb46 rfl rfl (Op1.load ty24 (.tmp rfl)) ?_
                  refine WL.run rfl rfl rfl rfl hb46 rfl rfl (Op1.fieldAddr Tryd.underlying36 rfl (fun w => ⟨2, Tryd.sizeOf24 w⟩) fapi_Destination_1 (.tmp rfl)) ?_
                  refine WL.run rfl rfl rfl rfl hb46 rfl rfl (Op1.load ty24 (.tmp rfl)) ?_
                  refine WL.run rfl rfl rfl rfl hb46 rfl rfl (Op1.neSt (D := 2) rfl (by decide) eg24 eq24 (.tmp rfl) (.tmp rfl)) ?_
                  refine WL.op rfl (Op1.pickF (.tmp rfl) hb46 (.tmp rfl)) ?_
                  refine WL.mv rfl rfl ?_
                  rcases bcases (decide (to.1 ≠ e.To)) with hb49 | hb49
                  · have hp50 := of_decide_eq_true hb49
                    rw [if_pos hp50] at hm
                    refine WL.pass rfl rfl rfl rfl hb49 rfl rfl ?_
                    refine WL.pass rfl rfl rfl rfl hb49 rfl rfl ?_
                    refine WL.pass rfl rfl rfl rfl hb49 rfl rfl ?_
                    refine WL.pass rfl rfl rfl rfl hb49 rfl rfl ?_
                    refine WL.op rfl (Op1.pickT (.tmp rfl) hb49 .bool) ?_
                    refine WL.ns ?_
                    refine W.condT (.tmp rfl) ?_
                    refine W.sr ?_
                    refine WL.op rfl (Op1.assign .bool) ?_
                    refine WL.ns ?_
                    have hr51 := Option.some.inj hm
                    clear hm
                    subst hr51
                    have hm := hk31
                    try dsimp only at hm
                    cases hm
                    exact W.ret1 () rfl (.tmp rfl) trivial
                  · have hp50 := of_decide_eq_false hb49
                    rw [if_neg hp50] at hm
                    refine WL.run rfl rfl rfl rfl hb49 rfl rfl (Op1.load ty24 (.tmp rfl)) ?_
                    refine WL.run rfl rfl rfl rfl hb49 rfl rfl (Op1.fieldAddr Tryd.underlying36 rfl (fun w => ⟨2, Tryd.sizeOf24 w⟩) fapi_Destination_0 (.tmp rfl)) ?_
                    refine WL.run rfl rfl rfl rfl hb49 rfl rfl (Op1.load ty24 (.tmp rfl)) ?_
                    refine WL.run rfl rfl rfl rfl hb49 rfl rfl (Op1.neSt (D := 2) rfl (by decide) eg24 eq24 (.tmp rfl) (.tmp rfl)) ?_
                    refine WL.op rfl (Op1.pickF (.tmp rfl) hb49 (.tmp rfl)) ?_
                    refine WL.ns ?_
                    refine W.cond (.tmp rfl) (fun hc52 => ?_) (fun hc52 => ?_)
                    · have hp53 := of_decide_eq_true hc52
                      rw [if_pos hp53] at hm
                      refine W.sr ?_
                      refine WL.op rfl (Op1.assign .bool) ?_
                      refine WL.ns ?_
                      have hr54 := Option.some.inj hm
                      clear hm
                      subst hr54
                      have hm := hk31
                      try dsimp only at hm
                      cases hm
                      exact W.ret1 () rfl (.tmp rfl) trivial
                    · have hp53 := of_decide_eq_false hc52
                      rw [if_neg hp53] at hm
                      refine W.skip ?_
                      refine WN.block ?_
                      refine WN.seq ?_
                      refine W.region ?_
                      refine WL.op rfl (Op1.addI (.tmp rfl) (.int (inR64.2 (by omega))) (range_inR hi33 hp38 hlen34)) ?_
                      refine WL.mv rfl rfl ?_
                      refine WL.nil ?_
                      exact WN.again es.length (i + 1, pre ++ [e], es, ()) (range_lt hn35) ⟨rfl, range_step hxs32, range_idx hi33, hm⟩ ⟨Ent.q rfl, Ent.q rfl, Ent.q rfl, Ent.q rfl, trivial⟩ trivial
            · have hrest40 := range_end hxs32 hi33 (of_decide_eq_false hc37)
              subst hrest40
              rw [M.law47_DestinationsInvert_loop1.eq_1] at hm
              refine W.exit rfl ?_
              have hr55 := Option.some.inj hm
              clear hm
              subst hr55
              have hm := hk31
              try dsimp only at hm
              refine WN.seq ?_
              refine W.sr ?_
              refine WL.op rfl (Op1.assign .bool) ?_
              refine WL.ns ?_
              cases hm
              exact W.ret1 () rfl (.tmp rfl) trivial
      · have hm := hs12
        clear hs12
        refine W.region ?_
        refine WL.mv rfl rfl ?_
        refine WL.mv rfl rfl ?_
        obtain ⟨back, hv14, hm⟩ := bind_some hm
        refine WL.op rfl (Op1.call Tryd.call14 (r47_Back_spec _ _ _ hv14) ⟨(.tmp rfl), trivial⟩) ?_
        obtain ⟨same, hv15, hm⟩ := bind_some hm
        refine WL.op rfl (Op1.call Tryd.call18 (r47_Same_spec _ _ _ _ hv15) ⟨(.tmp rfl), (.tmp rfl), trivial⟩) ?_
        refine WL.op rfl (Op1.notB (.tmp rfl)) ?_
        refine WL.mv rfl rfl ?_
        rcases bcases (!same) with hb16 | hb16
        · have hp17 := not_pos hb16
          rw [if_pos hp17] at hm
          refine WL.pass rfl rfl rfl rfl hb16 rfl rfl ?_
          refine WL.pass rfl rfl rfl rfl hb16 rfl rfl ?_
          refine WL.pass rfl rfl rfl rfl hb16 rfl rfl ?_
          refine WL.pass rfl rfl rfl rfl hb16 rfl rfl ?_
          refine WL.pass rfl rfl rfl rfl hb16 rfl rfl ?_
          refine WL.op rfl (Op1.pickT (.tmp rfl) hb16 .bool) ?_
          refine WL.mv rfl rfl ?_
          refine WL.pass rfl rfl rfl rfl rfl rfl rfl ?_
          refine WL.pass rfl rfl rfl rfl rfl rfl rfl ?_
          refine WL.pass rfl rfl rfl rfl rfl rfl rfl ?_
          refine WL.pass rfl rfl rfl rfl rfl rfl rfl ?_
          refine WL.pass rfl rfl rfl rfl rfl rfl rfl ?_
          refine WL.op rfl (Op1.pickT (.tmp rfl) rfl .bool) ?_
          refine WL.nil ?_
          exact WN.meet true (Option.some.inj hm) ⟨Ent.q rfl, Ent.q rfl, trivial⟩ trivial
        · have hp17 := not_neg hb16
          rw [if_neg hp17] at hm
          refine WL.run rfl rfl rfl rfl hb16 rfl rfl (Op1.move (.tmp rfl)) ?_
          obtain ⟨invert1, hv18, hm⟩ := bind_some hm
          refine WL.run rfl rfl rfl rfl hb16 rfl rfl (Op1.call Tryd.call17 (destinations_Invert_spec _ _ hv18) ⟨(.tmp rfl), trivial⟩) ?_
          refine WL.run rfl rfl rfl rfl hb16 rfl rfl (Op1.move (.tmp rfl)) ?_
          obtain ⟨same1, hv19, hm⟩ := bind_some hm
          refine WL.run rfl rfl rfl rfl hb16 rfl rfl (Op1.call Tryd.call18 (r47_Same_spec _ _ _ _ hv19) ⟨(.tmp rfl), (.tmp rfl), trivial⟩) ?_
          refine WL.run rfl rfl rfl rfl hb16 rfl rfl (Op1.notB (.tmp rfl)) ?_
          refine WL.op rfl (Op1.pickF (.tmp rfl) hb16 (.tmp rfl)) ?_
          refine WL.mv rfl rfl ?_
          rcases bcases (!same1) with hb20 | hb20
          · have hp21 := not_pos hb20
            rw [if_pos hp21] at hm
            refine WL.pass rfl rfl rfl rfl hb20 rfl rfl ?_
            refine WL.pass rfl rfl rfl rfl hb20 rfl rfl ?_
            refine WL.pass rfl rfl rfl rfl hb20 rfl rfl ?_
            refine WL.pass rfl rfl rfl rfl hb20 rfl rfl ?_
            refine WL.pass rfl rfl rfl rfl hb20 rfl rfl ?_
            refine WL.op rfl (Op1.pickT (.tmp rfl) hb20 .bool) ?_
            refine WL.nil ?_
            exact WN.meet true (Option.some.inj hm) ⟨Ent.q rfl, Ent.q rfl, trivial⟩ trivial
          · have hp21 := not_neg hb20
            rw [if_neg hp21] at hm
            refine WL.run rfl rfl rfl rfl hb20 rfl rfl (Op1.move (.tmp rfl)) ?_
            obtain ⟨valid, hv22, hm⟩ := bind_some hm
            refine WL.run rfl rfl rfl rfl hb20 rfl rfl (Op1.call Tryd.call15 (destinations_Valid_spec _ _ hv22) ⟨(.tmp rfl), trivial⟩) ?_
            refine WL.run rfl rfl rfl rfl hb20 rfl rfl (Op1.move (.tmp rfl)) ?_
            obtain ⟨valid1, hv23, hm⟩ := bind_some hm
            refine WL.run rfl rfl rfl rfl hb20 rfl rfl (Op1.call Tryd.call15 (destinations_Valid_spec _ _ hv23) ⟨(.tmp rfl), trivial⟩) ?_
            refine WL.run rfl rfl rfl rfl hb20 rfl rfl (Op1.neB Tryd.underlying4 (.tmp rfl) (.tmp rfl)) ?_
            refine WL.op rfl (Op1.pickF (.tmp rfl) hb20 (.tmp rfl)) ?_
            refine WL.nil ?_
            exact WN.meet (valid != valid1) (Option.some.inj hm) ⟨Ent.q rfl, Ent.q rfl, trivial⟩ trivial
  · have hm := hs2
    clear hs2
    refine W.region ?_
    obtain ⟨awake, hv4, hm⟩ := bind_some hm
    refine WL.op rfl (Op1.call Tryd.call10 (law47_awake_spec _ _ hv4) trivial) ?_
    refine WL.op rfl (Op1.notB (.tmp rfl)) ?_
    refine WL.mv rfl rfl ?_
    rcases bcases (!awake) with hb5 | hb5
    · have hp6 := not_pos hb5
      rw [if_pos hp6] at hm
      refine WL.pass rfl rfl rfl rfl hb5 rfl rfl ?_
      refine WL.pass rfl rfl rfl rfl hb5 rfl rfl ?_
      refine WL.pass rfl rfl rfl rfl hb5 rfl rfl ?_
      refine WL.op rfl (Op1.pickT (.tmp rfl) hb5 .bool) ?_
      refine WL.nil ?_
      exact WN.meet true (Option.some.inj hm) ⟨Ent.q rfl, Ent.q rfl, trivial⟩ trivial
    · have hp6 := not_neg hb5
      rw [if_neg hp6] at hm
      refine WL.run rfl rfl rfl rfl hb5 rfl rfl (Op1.move (.tmp rfl)) ?_
      refine WL.run rfl rfl rfl rfl hb5 rfl rfl (Op1.lenL Tryd.underlying22 (.tmp rfl)) ?_
      refine WL.run rfl rfl rfl rfl hb5 rfl rfl (Op1.gtI (.tmp rfl) (.int (inR64.2 (by omega)))) ?_
      refine WL.op rfl (Op1.pickF (.tmp rfl) hb5 (.tmp rfl)) ?_
      refine WL.nil ?_
      exact WN.meet (decide ((60 : Int) < (l.length : Int))) (Option.some.inj hm) ⟨Ent.q rfl, Ent.q rfl, trivial⟩ trivial

theorem destinations_Compose_spec (n : Nat) (a : List api_Destination) (b : List api_Destination) (r : (List api_Destination)) (hm : M.destinations_Compose n a b = some r) : FSpec Tryd.prog 19 [((tL tapi_Destination).is a), ((tL tapi_Destination).is b)] ((tL tapi_Destination).is r) := by
  unfold M.destinations_Compose at hm
  refine FSpec.of Tryd.func19 rfl rfl rfl (fun g0 => ?_)
  refine W.sr ?_
  refine WL.op rfl (Op1.assign (.nil (t := tapi_Destination))) ?_
  refine WL.nr ?_
  refine WL.addNil (t := tapi_Destination) (E := 36) 5 ?_
  refine WL.op rfl (Op1.assign (Opd.nilO (t := tapi_Destination))) ?_
  refine WL.ns ?_
  refine W.seq ?_
  refine W.sr ?_
  refine WL.mv rfl rfl ?_
  refine WL.op rfl (Op1.lenL Tryd.underlying22 (.tmp rfl)) ?_
  refine WL.op rfl (Op1.move (.int (inR64.2 (by omega)))) ?_
  refine WL.ns ?_
  refine W.block ?_
  obtain ⟨s1, hs2, hk3⟩ := bind_some hm
  clear hm
  refine W.loop (fun m (s : Int × List api_Destination × List api_Destination × (((List api_Destination)) × Tok)) => m = s.2.2.1.length ∧ a = s.2.1 ++ s.2.2.1 ∧ s.1 = (s.2.1.length : Int) ∧ M.destinations_Compose_loop1 n b s.2.2.1 s.2.2.2.1 = some s1) (fun s => [(12, ((tI .i64).is s.1)), (5, (tO tapi_Destination s.2.2.2.2 s.2.2.2.1)), (1, ((tL tapi_Destination).is b)), (10, ((tL tapi_Destination).is a)), (11, ((tI .i64).is (a.length : Int)))]) (fun s => [(5, Own tapi_Destination 36 s.2.2.2.2 s.2.2.2.1.length)]) a.length ((0 : Int), [], a, (([] : List api_Destination), (none : Tok))) ⟨rfl, rfl, rfl, hs2⟩ ⟨Ent.q rfl, Ent.q rfl, Ent.q rfl, Ent.q rfl, Ent.q rfl, trivial⟩ ⟨rfl, rfl, trivial⟩ ?_
  rintro m ⟨i, pre, rest1, ⟨out, k⟩⟩ ⟨hn7, hxs4, hi5, hm⟩
  try dsimp only at hn7 hxs4 hi5 hm
  change W _ _ _ _ _ _ _ [(12, ((tI .i64).is i)), (5, (tO tapi_Destination k out)), (1, ((tL tapi_Destination).is b)), (10, ((tL tapi_Destination).is a)), (11, ((tI .i64).is (a.length : Int)))] [(5, Own tapi_Destination 36 k out.length)]
  refine W.lenL (s := 10) (.tmp rfl) fun hlen6 => ?_
  refine W.sr ?_
  refine WL.op rfl (Op1.ltI (.tmp rfl) (.tmp rfl)) ?_
  refine WL.ns ?_
  refine W.seq ?_
  refine W.cond (.tmp rfl) (fun hc9 => ?_) (fun hc9 => ?_)
  · have hp10 := of_decide_eq_true hc9
    obtain ⟨e, es, hrest12⟩ := range_more hxs4 hi5 hp10
    subst hrest12
    rw [M.destinations_Compose_loop1.eq_2] at hm
    refine W.skip ?_
    refine WN.seq ?_
    refine W.seq ?_
    refine W.block ?_
    refine W.sr ?_
    refine WL.op rfl (Op1.idxPre hxs4 hi5 Tryd.underlying22 Tryd.sizeOf36 (.tmp rfl) (.tmp rfl)) ?_
    refine WL.op rfl (Op1.load ty36 (.tmp rfl)) ?_
    refine WL.opR rfl (OpR.alloc 7 ze36) (fun b1 => ?_)
    refine WL.opU (OpR.storeB (b := b1) 7 Tryd.sizeOf36 (Cellable.is tapi_Destination e) rfl (.tmp rfl) (.tmp rfl)) (fun _ => ?_)
    refine WL.sealed (t := tapi_Destination) (u := e) 7 7 rfl rfl ?_
    refine WL.nr ?_
    refine WL.op rfl (Op1.fieldAddr Tryd.underlying36 rfl (fun w => ⟨2, Tryd.sizeOf24 w⟩) fapi_Destination_1 (.tmp rfl)) ?_
    refine WL.op rfl (Op1.load ty24 (.tmp rfl)) ?_
    refine WL.mv rfl rfl ?_
    obtain ⟨to, hv13, hm⟩ := bind_some hm
    refine WL.op rfl (Op1.call Tryd.call11 (destinations_To_spec _ _ _ _ hv13) ⟨(.tmp rfl), (.tmp rfl), trivial⟩) ?_
    refine WL.mv rfl rfl ?_
    refine WL.op rfl (Op1.extract0 (.tmp rfl)) ?_
    refine WL.op rfl (Op1.extract1 (.tmp rfl)) ?_
    refine WL.opR rfl (OpR.alloc 8 ze24) (fun b2 => ?_)
    refine WL.opU (OpR.storeB (b := b2) 8 Tryd.sizeOf24 (Cellable.is tapi_Id to.1) rfl (.tmp rfl) (.tmp rfl)) (fun _ => ?_)
    refine WL.sealed (t := tapi_Id) (u := to.1) 8 8 rfl rfl ?_
    refine WL.gv rfl rfl ?_
    refine WL.nr ?_
    refine WL.mv rfl rfl ?_
    refine WL.ns ?_
    refine W.cond (.tmp rfl) (fun hc14 => ?_) (fun hc14 => ?_)
    · have hp15 := hc14
      rw [if_pos hp15] at hm
      refine W.region ?_
      refine WL.mv rfl rfl ?_
      refine WL.op rfl (Op1.fieldAddr Tryd.underlying36 rfl (fun w => ⟨2, Tryd.sizeOf24 w⟩) fapi_Destination_0 (.tmp rfl)) ?_
      refine WL.op rfl (Op1.load ty24 (.tmp rfl)) ?_
      refine WL.op rfl (Op1.load ty24 (.tmp rfl)) ?_
      refine WL.op rfl (Op1.build (s := tapi_Destination) (x := (⟨e.From, to.1⟩ : api_Destination)) zapi_Destination_f rfl Tryd.underlying36 (zapi_Destination_sz _ Tryd.underlying36) ze36 ⟨_, tapi_Id, e.From, _, _, rfl, Tryd.sizeOf24, (.tmp rfl), sapi_Destination_0, ⟨_, tapi_Id, to.1, _, _, rfl, Tryd.sizeOf24, (.tmp rfl), sapi_Destination_1, rfl⟩⟩) ?_
      refine WL.op rfl (Op1.buildSlice (n := 1) (ys := [(0, (⟨e.From, to.1⟩ : api_Destination))]) (z := zapi_Destination) (xs := [(⟨e.From, to.1⟩ : api_Destination)]) Tryd.underlying22 el36 ze36 ⟨rfl, (.tmp rfl), trivial⟩ (by simp) (by decide) rfl) ?_
      obtain ⟨out1, hv16, hm⟩ := bind_some hm
      refine WL.opR rfl (OpR.appC (key := 5) hv16 Tryd.underlying22 el36 (.tmp rfl) (.tmp rfl) rfl) (fun k1 => ?_)
      refine WL.gv rfl rfl ?_
      refine WL.nil ?_
      refine WN.block ?_
      refine WN.seq ?_
      refine W.region ?_
      refine WL.op rfl (Op1.addI (.tmp rfl) (.int (inR64.2 (by omega))) (range_inR hi5 hp10 hlen6)) ?_
      refine WL.mv rfl rfl ?_
      refine WL.nil ?_
      exact WN.again es.length (i + 1, pre ++ [e], es, (out1, k1)) (range_lt hn7) ⟨rfl, range_step hxs4, range_idx hi5, hm⟩ ⟨Ent.q rfl, Ent.q rfl, Ent.q rfl, Ent.q rfl, Ent.q rfl, trivial⟩ ⟨rfl, rfl, trivial⟩
    · have hp15 := ne_of_false hc14
      rw [if_neg hp15] at hm
      refine W.skip ?_
      refine WN.block ?_
      refine WN.seq ?_
      refine W.region ?_
      refine WL.op rfl (Op1.addI (.tmp rfl) (.int (inR64.2 (by omega))) (range_inR hi5 hp10 hlen6)) ?_
      refine WL.mv rfl rfl ?_
      refine WL.nil ?_
      exact WN.again es.length (i + 1, pre ++ [e], es, (out, k)) (range_lt hn7) ⟨rfl, range_step hxs4, range_idx hi5, hm⟩ ⟨Ent.q rfl, Ent.q rfl, Ent.q rfl, Ent.q rfl, Ent.q rfl, trivial⟩ ⟨rfl, rfl, trivial⟩
  · have hrest12 := range_end hxs4 hi5 (of_decide_eq_false hc9)
    subst hrest12
    rw [M.destinations_Compose_loop1.eq_1] at hm
    refine W.exit rfl ?_
    have hr17 := Option.some.inj hm
    clear hm
    subst hr17
    have hm := hk3
    try dsimp only at hm
    refine WN.seq ?_
    refine W.sr ?_
    refine WL.mv rfl rfl ?_
    refine WL.gv rfl rfl ?_
    refine WL.ns ?_
    cases hm
    exact W.ret1 () rfl (Opd.own (.tmp rfl)) trivial

theorem r47_Chain_spec (n : Nat) (a : List api_Destination) (b : List api_Destination) (r : (List api_Destination)) (hm : M.r47_Chain n a b = some r) : FSpec Tryd.prog 20 [((tL tapi_Destination).is a), ((tL tapi_Destination).is b)] ((tL tapi_Destination).is r) := by
  unfold M.r47_Chain at hm
  refine FSpec.of Tryd.func20 rfl rfl rfl (fun g0 => ?_)
  refine W.sr ?_
  refine WL.op rfl (Op1.assign (.nil (t := tapi_Destination))) ?_
  refine WL.nr ?_
  refine WL.opR rfl (OpR.buildSlice (n := 0) (ys := []) (z := zapi_Destination) (xs := ([] : List api_Destination)) 9 Tryd.underlying22 el36 ze36 trivial (by simp) (by decide) rfl) (fun k => ?_)
  refine WL.gv rfl rfl ?_
  refine WL.ns ?_
  refine W.seq ?_
  refine W.sr ?_
  refine WL.op rfl (Op1.assign (.int (inR64.2 (by omega)))) ?_
  refine WL.ns ?_
  refine W.block ?_
  obtain ⟨s1, hs2, hk3⟩ := bind_some hm
  clear hm
  refine W.loop (fun m (s : ((List api_Destination) × Int) × Tok) => M.r47_Chain_loop1 a b m s.1.1 s.1.2 = some s1) (fun s => [(5, (tO tapi_Destination s.2 s.1.1)), (6, ((tI .i64).is s.1.2)), (0, ((tL tapi_Destination).is a)), (1, ((tL tapi_Destination).is b))]) (fun s => [(9, Own tapi_Destination 36 s.2 s.1.1.length)]) _ ((([] : List api_Destination), (0 : Int)), k) hs2 ⟨Ent.q rfl, Ent.q rfl, Ent.q rfl, Ent.q rfl, trivial⟩ ⟨rfl, rfl, trivial⟩ ?_
  rintro n4 ⟨⟨out, i⟩, k1⟩ hm
  try dsimp only at hm
  change W _ _ _ _ _ _ _ [(5, (tO tapi_Destination k1 out)), (6, ((tI .i64).is i)), (0, ((tL tapi_Destination).is a)), (1, ((tL tapi_Destination).is b))] [(9, Own tapi_Destination 36 k1 out.length)]
  cases n4 with
  | zero => rw [M.r47_Chain_loop1.eq_1] at hm; cases hm
  | succ n4 =>
    rw [M.r47_Chain_loop1.eq_2] at hm
    refine W.seq ?_
    refine W.sr ?_
    refine WL.mv rfl rfl ?_
    refine WL.mv rfl rfl ?_
    refine WL.op rfl (Op1.lenL Tryd.underlying22 (.tmp rfl)) ?_
    refine WL.op rfl (Op1.ltI (.tmp rfl) (.tmp rfl)) ?_
    refine WL.ns ?_
    refine W.cond (.tmp rfl) (fun hc5 => ?_) (fun hc5 => ?_)
    · have hp6 := of_decide_eq_true hc5
      rw [if_pos hp6] at hm
      refine W.skip ?_
      refine WN.seq ?_
      refine W.seq ?_
      refine W.block ?_
      refine W.sr ?_
      refine WL.mv rfl rfl ?_
      refine WL.mv rfl rfl ?_
      obtain ⟨v, hv7, hm⟩ := bind_some hm
      refine WL.op rfl (Op1.idx hv7 Tryd.underlying22 Tryd.sizeOf36 (.tmp rfl) (.tmp rfl)) ?_
      refine WL.op rfl (Op1.fieldAddr Tryd.underlying36 rfl (fun w => ⟨2, Tryd.sizeOf24 w⟩) fapi_Destination_1 (.tmp rfl)) ?_
      refine WL.op rfl (Op1.load ty24 (.tmp rfl)) ?_
      refine WL.mv rfl rfl ?_
      obtain ⟨to, hv8, hm⟩ := bind_some hm
      refine WL.op rfl (Op1.call Tryd.call13 (r47_To_spec _ _ _ _ hv8) ⟨(.tmp rfl), (.tmp rfl), trivial⟩) ?_
      refine WL.mv rfl rfl ?_
      refine WL.op rfl (Op1.extract0 (.tmp rfl)) ?_
      refine WL.op rfl (Op1.extract1 (.tmp rfl)) ?_
      refine WL.opR rfl (OpR.alloc 7 ze24) (fun b1 => ?_)
      refine WL.opU (OpR.storeB (b := b1) 7 Tryd.sizeOf24 (Cellable.is tapi_Id to.1) rfl (.tmp rfl) (.tmp rfl)) (fun _ => ?_)
      refine WL.sealed (t := tapi_Id) (u := to.1) 7 7 rfl rfl ?_
      refine WL.gv rfl rfl ?_
      refine WL.nr ?_
      refine WL.mv rfl rfl ?_
      refine WL.ns ?_
      refine W.cond (.tmp rfl) (fun hc9 => ?_) (fun hc9 => ?_)
      · have hp10 := hc9
        rw [if_pos hp10] at hm
        obtain ⟨v1, hv11, hm⟩ := bind_some hm
        obtain ⟨out1, hv12, hm⟩ := bind_some hm
        refine W.drawR [.c (tO tapi_Destination k1 out), .c ((tL tapi_Destination).is a), .c ((tI .i64).is i), .c (tapi_Destination.ptr v1), .c (tapi_Id.ptr v1.From), .c (tapi_Id.is v1.From), .c (tapi_Id.is to.1), .c (tapi_Destination.is (⟨v1.From, to.1⟩ : api_Destination)), .c ((tL tapi_Destination).is [(⟨v1.From, to.1⟩ : api_Destination)]), .f (fun k2 => (tO tapi_Destination k2 out1)), .f (fun k2 => (tO tapi_Destination k2 out1))] [([], [5]), ([], [0]), ([], [6]), ([1, 2], []), ([3], []), ([4], []), ([], [7]), ([5, 6], []), ([7], []), ([0, 8], []), ([9], [])] 9 [9] (fun k : Tok => tO tapi_Destination k out1) (fun k : Tok => [(9, Own tapi_Destination 36 k out1.length)]) (none : Tok) Tryd.mixed rfl rfl rfl (fun k2 => ⟨.inr (Op1.move (.tmp rfl)), .inr (Op1.move (.tmp rfl)), .inr (Op1.move (.tmp rfl)), .inr (Op1.idx hv11 Tryd.underlying22 Tryd.sizeOf36 (.tmp rfl) (.tmp rfl)), .inr (Op1.fieldAddr Tryd.underlying36 rfl (fun w => ⟨2, Tryd.sizeOf24 w⟩) fapi_Destination_0 (.tmp rfl)), .inr (Op1.load ty24 (.tmp rfl)), .inr (Op1.load ty24 (.tmp rfl)), .inr (Op1.build (s := tapi_Destination) (x := (⟨v1.From, to.1⟩ : api_Destination)) zapi_Destination_f rfl Tryd.underlying36 (zapi_Destination_sz _ Tryd.underlying36) ze36 ⟨_, tapi_Id, v1.From, _, _, rfl, Tryd.sizeOf24, (.tmp rfl), sapi_Destination_0, ⟨_, tapi_Id, to.1, _, _, rfl, Tryd.sizeOf24, (.tmp rfl), sapi_Destination_1, rfl⟩⟩), .inr (Op1.buildSlice (n := 1) (ys := [(0, (⟨v1.From, to.1⟩ : api_Destination))]) (z := zapi_Destination) (xs := [(⟨v1.From, to.1⟩ : api_Destination)]) Tryd.underlying22 el36 ze36 ⟨rfl, (.tmp rfl), trivial⟩ (by simp) (by decide) rfl), .inl rfl, .inr (Op1.assign (.tmp rfl)), trivial⟩) (.inl ⟨by decide, _, _, rfl, rfl, rfl, rfl, OpR.appC (key := 9) hv12 Tryd.underlying22 el36 (.tmp rfl) (.tmp rfl) rfl⟩) (fun k2 => ?_)
        refine WN.block ?_
        refine WN.seq ?_
        refine W.region ?_
        refine WL.mv rfl rfl ?_
        refine WL.lenL (s := 0) (.tmp rfl) fun hl13 => ?_
        refine WL.op rfl (Op1.addI1 (.tmp rfl) (.int (inR64.2 (by omega))) hp6 hl13) ?_
        refine WL.gv rfl rfl ?_
        refine WL.nil ?_
        exact WN.again n4 ((out1, i + 1), k2) (Nat.lt_succ_self n4) hm ⟨Ent.q rfl, Ent.q rfl, Ent.q rfl, Ent.q rfl, trivial⟩ ⟨rfl, rfl, trivial⟩
      · have hp10 := ne_of_false hc9
        rw [if_neg hp10] at hm
        refine W.skip ?_
        refine WN.block ?_
        refine WN.seq ?_
        refine W.region ?_
        refine WL.mv rfl rfl ?_
        refine WL.lenL (s := 0) (.tmp rfl) fun hl14 => ?_
        refine WL.op rfl (Op1.addI1 (.tmp rfl) (.int (inR64.2 (by omega))) hp6 hl14) ?_
        refine WL.gv rfl rfl ?_
        refine WL.nil ?_
        exact WN.again n4 ((out, i + 1), k1) (Nat.lt_succ_self n4) hm ⟨Ent.q rfl, Ent.q rfl, Ent.q rfl, Ent.q rfl, trivial⟩ ⟨rfl, rfl, trivial⟩
    · have hp6 := of_decide_eq_false hc5
      rw [if_neg hp6] at hm
      refine W.exit rfl ?_
      have hr15 := Option.some.inj hm
      clear hm
      subst hr15
      have hm := hk3
      try dsimp only at hm
      refine WN.seq ?_
      refine W.sr ?_
      refine WL.mv rfl rfl ?_
      refine WL.gv rfl rfl ?_
      refine WL.ns ?_
      cases hm
      exact W.ret1 () rfl (Opd.own (.tmp rfl)) trivial

theorem law47_DestinationsCompose_spec (n : Nat) (a : List api_Destination) (b : List api_Destination) (id : api_Id) (r : Bool) (hm : M.law47_DestinationsCompose n a b id = some r) : FSpec Tryd.prog 5 [((tL tapi_Destination).is a), ((tL tapi_Destination).is b), (tapi_Id.is id)] (tB.is r) := by
  unfold M.law47_DestinationsCompose at hm
  refine FSpec.of Tryd.func5 rfl rfl rfl (fun g0 => ?_)
  refine W.sr ?_
  refine WL.op rfl (Op1.box (.tmp rfl)) ?_
  refine WL.op rfl (Op1.assign .bool) ?_
  refine WL.ns ?_
  refine W.seq ?_
  obtain ⟨s1, hs2, hk3⟩ := bind_some hm
  clear hm
  refine W.join (fun s : Bool => s = s1) (fun s => [(25, (tB.is s)), (0, ((tL tapi_Destination).is a)), (1, ((tL tapi_Destination).is b)), (5, (tapi_Id.ptr id))]) (fun s => []) ?_ ?_
  · rintro v hj43
    try dsimp only at hj43
    subst hj43
    have hm := hk3
    clear hk3
    try dsimp only at hm
    change W _ _ _ _ _ _ _ [(25, (tB.is v)), (0, ((tL tapi_Destination).is a)), (1, ((tL tapi_Destination).is b)), (5, (tapi_Id.ptr id))] []
    refine W.cond (.tmp rfl) (fun hc9 => ?_) (fun hc9 => ?_)
    · have hp10 := hc9
      rw [if_pos hp10] at hm
      refine W.sr ?_
      obtain ⟨awake1, hv11, hm⟩ := bind_some hm
      refine WL.op rfl (Op1.call Tryd.call10 (law47_awake_spec _ _ hv11) trivial) ?_
      refine WL.gv rfl rfl ?_
      refine WL.ns ?_
      cases hm
      exact W.ret1 () rfl (.tmp rfl) trivial
    · have hp10 := ne_of_false hc9
      rw [if_neg hp10] at hm
      refine W.skip ?_
      refine WN.seq ?_
      refine W.sr ?_
      refine WL.mv rfl rfl ?_
      refine WL.mv rfl rfl ?_
      obtain ⟨compos, hv12, hm⟩ := bind_some hm
      refine WL.op rfl (Op1.call Tryd.call19 (destinations_Compose_spec _ _ _ _ hv12) ⟨(.tmp rfl), (.tmp rfl), trivial⟩) ?_
      refine WL.gv rfl rfl ?_
      refine WL.ns ?_
      refine W.seq ?_
      refine W.sr ?_
      refine WL.mv rfl rfl ?_
      refine WL.mv rfl rfl ?_
      refine WL.mv rfl rfl ?_
      obtain ⟨chain, hv13, hm⟩ := bind_some hm
      refine WL.op rfl (Op1.call Tryd.call20 (r47_Chain_spec _ _ _ _ hv13) ⟨(.tmp rfl), (.tmp rfl), trivial⟩) ?_
      obtain ⟨same, hv14, hm⟩ := bind_some hm
      refine WL.op rfl (Op1.call Tryd.call18 (r47_Same_spec _ _ _ _ hv14) ⟨(.tmp rfl), (.tmp rfl), trivial⟩) ?_
      refine WL.op rfl (Op1.notB (.tmp rfl)) ?_
      refine WL.ns ?_
      refine W.cond (.tmp rfl) (fun hc15 => ?_) (fun hc15 => ?_)
      · have hp16 := not_pos hc15
        rw [if_pos hp16] at hm
        refine W.sr ?_
        refine WL.op rfl (Op1.assign .bool) ?_
        refine WL.ns ?_
        cases hm
        exact W.ret1 () rfl (.tmp rfl) trivial
      · have hp16 := not_neg hc15
        rw [if_neg hp16] at hm
        refine W.skip ?_
        refine WN.seq ?_
        refine W.seq ?_
        obtain ⟨s17, hs18, hk19⟩ := bind_some hm
        clear hm
        refine W.join (fun s : Bool => s = s17) (fun s => [(43, (tB.is s)), (0, ((tL tapi_Destination).is a)), (1, ((tL tapi_Destination).is b)), (5, (tapi_Id.ptr id)), (7, ((tL tapi_Destination).is compos))]) (fun s => []) ?_ ?_
        · rintro v1 hj42
          try dsimp only at hj42
          subst hj42
          have hm := hk19
          clear hk19
          try dsimp only at hm
          change W _ _ _ _ _ _ _ [(43, (tB.is v1)), (0, ((tL tapi_Destination).is a)), (1, ((tL tapi_Destination).is b)), (5, (tapi_Id.ptr id)), (7, ((tL tapi_Destination).is compos))] []
          refine W.cond (.tmp rfl) (fun hc24 => ?_) (fun hc24 => ?_)
          · have hp25 := hc24
            rw [if_pos hp25] at hm
            refine W.sr ?_
            refine WL.op rfl (Op1.assign .bool) ?_
            refine WL.ns ?_
            cases hm
            exact W.ret1 () rfl (.tmp rfl) trivial
          · have hp25 := ne_of_false hc24
            rw [if_neg hp25] at hm
            refine W.skip ?_
            refine WN.seq ?_
            refine W.sr ?_
            refine WL.op rfl (Op1.load ty24 (.tmp rfl)) ?_
            refine WL.mv rfl rfl ?_
            obtain ⟨to, hv26, hm⟩ := bind_some hm
            refine WL.op rfl (Op1.call Tryd.call11 (destinations_To_spec _ _ _ _ hv26) ⟨(.tmp rfl), (.tmp rfl), trivial⟩) ?_
            refine WL.mv rfl rfl ?_
            refine WL.op rfl (Op1.extract0 (.tmp rfl)) ?_
            refine WL.op rfl (Op1.extract1 (.tmp rfl)) ?_
            refine WL.opR rfl (OpR.alloc 8 ze24) (fun b1 => ?_)
            refine WL.opU (OpR.storeB (b := b1) 8 Tryd.sizeOf24 (Cellable.is tapi_Id to.1) rfl (.tmp rfl) (.tmp rfl)) (fun _ => ?_)
            refine WL.sealed (t := tapi_Id) (u := to.1) 8 8 rfl rfl ?_
            refine WL.gv rfl rfl ?_
            refine WL.nr ?_
            refine WL.op rfl (Op1.load ty24 (.tmp rfl)) ?_
            refine WL.mv rfl rfl ?_
            obtain ⟨to1, hv27, hm⟩ := bind_some hm
            refine WL.op rfl (Op1.call Tryd.call11 (destinations_To_spec _ _ _ _ hv27) ⟨(.tmp rfl), (.tmp rfl), trivial⟩) ?_
            refine WL.mv rfl rfl ?_
            refine WL.op rfl (Op1.extract0 (.tmp rfl)) ?_
            refine WL.op rfl (Op1.extract1 (.tmp rfl)) ?_
            refine WL.opR rfl (OpR.alloc 10 ze24) (fun b2 => ?_)
            refine WL.opU (OpR.storeB (b := b2) 10 Tryd.sizeOf24 (Cellable.is tapi_Id to1.1) rfl (.tmp rfl) (.tmp rfl)) (fun _ => ?_)
            refine WL.sealed (t := tapi_Id) (u := to1.1) 10 10 rfl rfl ?_
            refine WL.gv rfl rfl ?_
            refine WL.nr ?_
            refine WL.op rfl (Op1.load ty24 (.tmp rfl)) ?_
            refine WL.mv rfl rfl ?_
            obtain ⟨to2, hv28, hm⟩ := bind_some hm
            refine WL.op rfl (Op1.call Tryd.call11 (destinations_To_spec _ _ _ _ hv28) ⟨(.tmp rfl), (.tmp rfl), trivial⟩) ?_
            refine WL.mv rfl rfl ?_
            refine WL.op rfl (Op1.extract0 (.tmp rfl)) ?_
            refine WL.op rfl (Op1.extract1 (.tmp rfl)) ?_
            refine WL.opR rfl (OpR.alloc 12 ze24) (fun b3 => ?_)
            refine WL.opU (OpR.storeB (b := b3) 12 Tryd.sizeOf24 (Cellable.is tapi_Id to2.1) rfl (.tmp rfl) (.tmp rfl)) (fun _ => ?_)
            refine WL.sealed (t := tapi_Id) (u := to2.1) 12 12 rfl rfl ?_
            refine WL.gv rfl rfl ?_
            refine WL.nr ?_
            refine WL.mv rfl rfl ?_
            obtain ⟨valid2, hv29, hm⟩ := bind_some hm
            refine WL.op rfl (Op1.call Tryd.call15 (destinations_Valid_spec _ _ hv29) ⟨(.tmp rfl), trivial⟩) ?_
            refine WL.mv rfl rfl ?_
            rcases bcases (valid2) with hb30 | hb30
            · have hp31 := hb30
              rw [if_pos hp31] at hm
              refine WL.run rfl rfl rfl rfl hb30 rfl rfl (Op1.move (.tmp rfl)) ?_
              refine WL.run rfl rfl rfl rfl hb30 rfl rfl (Op1.move (.tmp rfl)) ?_
              refine WL.run rfl rfl rfl rfl hb30 rfl rfl (Op1.move (.tmp rfl)) ?_
              rcases bcases (to1.2) with hb32 | hb32
              · have hp33 := hb32
                rw [if_pos hp33] at hm
                refine WL.run rfl rfl rfl rfl hb32 rfl rfl (Op1.move (.tmp rfl)) ?_
                refine WL.run rfl rfl rfl rfl hb30 rfl rfl (Op1.pickT (.tmp rfl) hb32 (.tmp rfl)) ?_
                refine WL.run rfl rfl rfl rfl hb30 rfl rfl (Op1.eqB Tryd.underlying4 (.tmp rfl) (.tmp rfl)) ?_
                refine WL.op rfl (Op1.pickT (.tmp rfl) hb30 (.tmp rfl)) ?_
                refine WL.mv rfl rfl ?_
                rcases bcases (to.2 == to2.2) with hb34 | hb34
                · have hp35 := hb34
                  rw [if_pos hp35] at hm
                  refine WL.run rfl rfl rfl rfl hb34 rfl rfl (Op1.move (.tmp rfl)) ?_
                  refine WL.run rfl rfl rfl rfl hb34 rfl rfl (Op1.notB (.tmp rfl)) ?_
                  refine WL.run rfl rfl rfl rfl hb34 rfl rfl (Op1.move (.tmp rfl)) ?_
                  rcases bcases (!to.2) with hb36 | hb36
                  · have hp37 := not_pos hb36
                    rw [if_pos hp37] at hm
                    refine WL.pass rfl rfl rfl rfl hb36 rfl rfl ?_
                    refine WL.pass rfl rfl rfl rfl hb36 rfl rfl ?_
                    refine WL.pass rfl rfl rfl rfl hb36 rfl rfl ?_
                    refine WL.run rfl rfl rfl rfl hb34 rfl rfl (Op1.pickT (.tmp rfl) hb36 .bool) ?_
                    refine WL.op rfl (Op1.pickT (.tmp rfl) hb34 (.tmp rfl)) ?_
                    refine WL.gv rfl rfl ?_
                    refine WL.ns ?_
                    cases hm
                    exact W.ret1 () rfl (.tmp rfl) trivial
                  · have hp37 := not_neg hb36
                    rw [if_neg hp37] at hm
                    refine WL.run rfl rfl rfl rfl hb36 rfl rfl (Op1.load ty24 (.tmp rfl)) ?_
                    refine WL.run rfl rfl rfl rfl hb36 rfl rfl (Op1.load ty24 (.tmp rfl)) ?_
                    refine WL.run rfl rfl rfl rfl hb36 rfl rfl (Op1.eqSt (D := 2) rfl (by decide) eg24 eq24 (.tmp rfl) (.tmp rfl)) ?_
                    refine WL.run rfl rfl rfl rfl hb34 rfl rfl (Op1.pickF (.tmp rfl) hb36 (.tmp rfl)) ?_
                    refine WL.op rfl (Op1.pickT (.tmp rfl) hb34 (.tmp rfl)) ?_
                    refine WL.gv rfl rfl ?_
                    refine WL.ns ?_
                    cases hm
                    exact W.ret1 () rfl (.tmp rfl) trivial
                · have hp35 := ne_of_false hb34
                  rw [if_neg hp35] at hm
                  refine WL.pass rfl rfl rfl rfl hb34 rfl rfl ?_
                  refine WL.pass rfl rfl rfl rfl hb34 rfl rfl ?_
                  refine WL.pass rfl rfl rfl rfl hb34 rfl rfl ?_
                  refine WL.pass2 rfl rfl rfl rfl rfl rfl ?_
                  refine WL.pass2 rfl rfl rfl rfl rfl rfl ?_
                  refine WL.pass2 rfl rfl rfl rfl rfl rfl ?_
                  refine WL.pass rfl rfl rfl rfl hb34 rfl rfl ?_
                  refine WL.op rfl (Op1.pickF (.tmp rfl) hb34 .bool) ?_
                  refine WL.gv rfl rfl ?_
                  refine WL.ns ?_
                  cases hm
                  exact W.ret1 () rfl (.tmp rfl) trivial
              · have hp33 := ne_of_false hb32
                rw [if_neg hp33] at hm
                refine WL.pass rfl rfl rfl rfl hb32 rfl rfl ?_
                refine WL.run rfl rfl rfl rfl hb30 rfl rfl (Op1.pickF (.tmp rfl) hb32 .bool) ?_
                refine WL.run rfl rfl rfl rfl hb30 rfl rfl (Op1.eqB Tryd.underlying4 (.tmp rfl) (.tmp rfl)) ?_
                refine WL.op rfl (Op1.pickT (.tmp rfl) hb30 (.tmp rfl)) ?_
                refine WL.mv rfl rfl ?_
                rcases bcases (to.2 == false) with hb38 | hb38
                · have hp39 := hb38
                  rw [if_pos hp39] at hm
                  refine WL.run rfl rfl rfl rfl hb38 rfl rfl (Op1.move (.tmp rfl)) ?_
                  refine WL.run rfl rfl rfl rfl hb38 rfl rfl (Op1.notB (.tmp rfl)) ?_
                  refine WL.run rfl rfl rfl rfl hb38 rfl rfl (Op1.move (.tmp rfl)) ?_
                  rcases bcases (!to.2) with hb40 | hb40
                  · have hp41 := not_pos hb40
                    rw [if_pos hp41] at hm
                    refine WL.pass rfl rfl rfl rfl hb40 rfl rfl ?_
                    refine WL.pass rfl rfl rfl rfl hb40 rfl rfl ?_
                    refine WL.pass rfl rfl rfl rfl hb40 rfl rfl ?_
                    refine WL.run rfl rfl rfl rfl hb38 rfl rfl (Op1.pickT (.tmp rfl) hb40 .bool) ?_
                    refine WL.op rfl (Op1.pickT (.tmp rfl) hb38 (.tmp rfl)) ?_
                    refine WL.gv rfl rfl ?_
                    refine WL.ns ?_
                    cases hm
                    exact W.ret1 () rfl (.tmp rfl) trivial
                  · have hp41 := not_neg hb40
                    rw [if_neg hp41] at hm
                    refine WL.run rfl rfl rfl rfl hb40 rfl rfl (Op1.load ty24 (.tmp rfl)) ?_
                    refine WL.run rfl rfl rfl rfl hb40 rfl rfl (Op1.load ty24 (.tmp rfl)) ?_
                    refine WL.run rfl rfl rfl rfl hb40 rfl rfl (Op1.eqSt (D := 2) rfl (by decide) eg24 eq24 (.tmp rfl) (.tmp rfl)) ?_
                    refine WL.run rfl rfl rfl rfl hb38 rfl rfl (Op1.pickF (.tmp rfl) hb40 (.tmp rfl)) ?_
                    refine WL.op rfl (Op1.pickT (.tmp rfl) hb38 (.tmp rfl)) ?_
                    refine WL.gv rfl rfl ?_
                    refine WL.ns ?_
                    cases hm
                    exact W.ret1 () rfl (.tmp rfl) trivial
                · have hp39 := ne_of_false hb38
                  rw [if_neg hp39] at hm
                  refine WL.pass rfl rfl rfl rfl hb38 rfl rfl ?_
                  refine WL.pass rfl rfl rfl rfl hb38 rfl rfl ?_
                  refine WL.pass rfl rfl rfl rfl hb38 rfl rfl ?_
                  refine WL.pass2 rfl rfl rfl rfl rfl rfl ?_
                  refine WL.pass2 rfl rfl rfl rfl rfl rfl ?_
                  refine WL.pass2 rfl rfl rfl rfl rfl rfl ?_
                  refine WL.pass rfl rfl rfl rfl hb38 rfl rfl ?_
                  refine WL.op rfl (Op1.pickF (.tmp rfl) hb38 .bool) ?_
                  refine WL.gv rfl rfl ?_
                  refine WL.ns ?_
                  cases hm
                  exact W.ret1 () rfl (.tmp rfl) trivial
            · have hp31 := ne_of_false hb30
              rw [if_neg hp31] at hm
              refine WL.pass rfl rfl rfl rfl hb30 rfl rfl ?_
              refine WL.pass rfl rfl rfl rfl hb30 rfl rfl ?_
              refine WL.pass rfl rfl rfl rfl hb30 rfl rfl ?_
              refine WL.pass2 rfl rfl rfl rfl rfl rfl ?_
              refine WL.pass rfl rfl rfl rfl hb30 rfl rfl ?_
              refine WL.pass rfl rfl rfl rfl hb30 rfl rfl ?_
              refine WL.op rfl (Op1.pickF (.tmp rfl) hb30 .bool) ?_
              refine WL.mv rfl rfl ?_
              refine WL.pass rfl rfl rfl rfl rfl rfl rfl ?_
              refine WL.pass rfl rfl rfl rfl rfl rfl rfl ?_
              refine WL.pass rfl rfl rfl rfl rfl rfl rfl ?_
              refine WL.pass2 rfl rfl rfl rfl rfl rfl ?_
              refine WL.pass2 rfl rfl rfl rfl rfl rfl ?_
              refine WL.pass2 rfl rfl rfl rfl rfl rfl ?_
              refine WL.pass rfl rfl rfl rfl rfl rfl rfl ?_
              refine WL.op rfl (Op1.pickF (.tmp rfl) rfl .bool) ?_
              refine WL.gv rfl rfl ?_
              refine WL.ns ?_
              cases hm
              exact W.ret1 () rfl (.tmp rfl) trivial
        · have hm := hs18
          clear hs18
          refine W.region ?_
          refine WL.mv rfl rfl ?_
          obtain ⟨valid, hv20, hm⟩ := bind_some hm
          refine WL.op rfl (Op1.call Tryd.call15 (destinations_Valid_spec _ _ hv20) ⟨(.tmp rfl), trivial⟩) ?_
          refine WL.op rfl (Op1.notB (.tmp rfl)) ?_
          refine WL.mv rfl rfl ?_
          rcases bcases (!valid) with hb21 | hb21
          · have hp22 := not_pos hb21
            rw [if_pos hp22] at hm
            refine WL.pass rfl rfl rfl rfl hb21 rfl rfl ?_
            refine WL.pass rfl rfl rfl rfl hb21 rfl rfl ?_
            refine WL.pass rfl rfl rfl rfl hb21 rfl rfl ?_
            refine WL.op rfl (Op1.pickT (.tmp rfl) hb21 .bool) ?_
            refine WL.nil ?_
            exact WN.meet true (Option.some.inj hm) ⟨Ent.q rfl, Ent.q rfl, Ent.q rfl, Ent.q rfl, Ent.q rfl, trivial⟩ trivial
          · have hp22 := not_neg hb21
            rw [if_neg hp22] at hm
            refine WL.run rfl rfl rfl rfl hb21 rfl rfl (Op1.move (.tmp rfl)) ?_
            obtain ⟨valid1, hv23, hm⟩ := bind_some hm
            refine WL.run rfl rfl rfl rfl hb21 rfl rfl (Op1.call Tryd.call15 (destinations_Valid_spec _ _ hv23) ⟨(.tmp rfl), trivial⟩) ?_
            refine WL.run rfl rfl rfl rfl hb21 rfl rfl (Op1.notB (.tmp rfl)) ?_
            refine WL.op rfl (Op1.pickF (.tmp rfl) hb21 (.tmp rfl)) ?_
            refine WL.nil ?_
            exact WN.meet (!valid1) (Option.some.inj hm) ⟨Ent.q rfl, Ent.q rfl, Ent.q rfl, Ent.q rfl, Ent.q rfl, trivial⟩ trivial
  · have hm := hs2
    clear hs2
    refine W.region ?_
    obtain ⟨awake, hv4, hm⟩ := bind_some hm
    refine WL.op rfl (Op1.call Tryd.call10 (law47_awake_spec _ _ hv4) trivial) ?_
    refine WL.op rfl (Op1.notB (.tmp rfl)) ?_
    refine WL.mv rfl rfl ?_
    rcases bcases (!awake) with hb5 | hb5
    · have hp6 := not_pos hb5
      rw [if_pos hp6] at hm
      refine WL.pass rfl rfl rfl rfl hb5 rfl rfl ?_
      refine WL.pass rfl rfl rfl rfl hb5 rfl rfl ?_
      refine WL.pass rfl rfl rfl rfl hb5 rfl rfl ?_
      refine WL.op rfl (Op1.pickT (.tmp rfl) hb5 .bool) ?_
      refine WL.mv rfl rfl ?_
      refine WL.pass rfl rfl rfl rfl rfl rfl rfl ?_
      refine WL.pass rfl rfl rfl rfl rfl rfl rfl ?_
      refine WL.pass rfl rfl rfl rfl rfl rfl rfl ?_
      refine WL.op rfl (Op1.pickT (.tmp rfl) rfl .bool) ?_
      refine WL.nil ?_
      exact WN.meet true (Option.some.inj hm) ⟨Ent.q rfl, Ent.q rfl, Ent.q rfl, Ent.q rfl, trivial⟩ trivial
    · have hp6 := not_neg hb5
      rw [if_neg hp6] at hm
      refine WL.run rfl rfl rfl rfl hb5 rfl rfl (Op1.move (.tmp rfl)) ?_
      refine WL.run rfl rfl rfl rfl hb5 rfl rfl (Op1.lenL Tryd.underlying22 (.tmp rfl)) ?_
      refine WL.run rfl rfl rfl rfl hb5 rfl rfl (Op1.gtI (.tmp rfl) (.int (inR64.2 (by omega)))) ?_
      refine WL.op rfl (Op1.pickF (.tmp rfl) hb5 (.tmp rfl)) ?_
      refine WL.mv rfl rfl ?_
      rcases bcases (decide ((40 : Int) < (a.length : Int))) with hb7 | hb7
      · have hp8 := of_decide_eq_true hb7
        rw [if_pos hp8] at hm
        refine WL.pass rfl rfl rfl rfl hb7 rfl rfl ?_
        refine WL.pass rfl rfl rfl rfl hb7 rfl rfl ?_
        refine WL.pass rfl rfl rfl rfl hb7 rfl rfl ?_
        refine WL.op rfl (Op1.pickT (.tmp rfl) hb7 .bool) ?_
        refine WL.nil ?_
        exact WN.meet true (Option.some.inj hm) ⟨Ent.q rfl, Ent.q rfl, Ent.q rfl, Ent.q rfl, trivial⟩ trivial
      · have hp8 := of_decide_eq_false hb7
        rw [if_neg hp8] at hm
        refine WL.run rfl rfl rfl rfl hb7 rfl rfl (Op1.move (.tmp rfl)) ?_
        refine WL.run rfl rfl rfl rfl hb7 rfl rfl (Op1.lenL Tryd.underlying22 (.tmp rfl)) ?_
        refine WL.run rfl rfl rfl rfl hb7 rfl rfl (Op1.gtI (.tmp rfl) (.int (inR64.2 (by omega)))) ?_
        refine WL.op rfl (Op1.pickF (.tmp rfl) hb7 (.tmp rfl)) ?_
        refine WL.nil ?_
        exact WN.meet (decide ((40 : Int) < (b.length : Int))) (Option.some.inj hm) ⟨Ent.q rfl, Ent.q rfl, Ent.q rfl, Ent.q rfl, trivial⟩ trivial

theorem law47_DestinationsIdentity_spec (n : Nat) (a : List api_Destination) (b : List api_Destination) (c : List api_Destination) (r : Bool) (hm : M.law47_DestinationsIdentity n a b c = some r) : FSpec Tryd.prog 6 [((tL tapi_Destination).is a), ((tL tapi_Destination).is b), ((tL tapi_Destination).is c)] (tB.is r) := by
  unfold M.law47_DestinationsIdentity at hm
  refine FSpec.of Tryd.func6 rfl rfl rfl (fun g0 => ?_)
  refine W.sr ?_
  refine WL.op rfl (Op1.assign .bool) ?_
  refine WL.ns ?_
  refine W.seq ?_
  obtain ⟨s1, hs2, hk3⟩ := bind_some hm
  clear hm
  refine W.join (fun s : Bool => s = s1) (fun s => [(26, (tB.is s)), (0, ((tL tapi_Destination).is a)), (1, ((tL tapi_Destination).is b)), (2, ((tL tapi_Destination).is c))]) (fun s => []) ?_ ?_
  · rintro v hj53
    try dsimp only at hj53
    subst hj53
    have hm := hk3
    clear hk3
    try dsimp only at hm
    change W _ _ _ _ _ _ _ [(26, (tB.is v)), (0, ((tL tapi_Destination).is a)), (1, ((tL tapi_Destination).is b)), (2, ((tL tapi_Destination).is c))] []
    refine W.cond (.tmp rfl) (fun hc11 => ?_) (fun hc11 => ?_)
    · have hp12 := hc11
      rw [if_pos hp12] at hm
      refine W.sr ?_
      obtain ⟨awake1, hv13, hm⟩ := bind_some hm
      refine WL.op rfl (Op1.call Tryd.call10 (law47_awake_spec _ _ hv13) trivial) ?_
      refine WL.gv rfl rfl ?_
      refine WL.ns ?_
      cases hm
      exact W.ret1 () rfl (.tmp rfl) trivial
    · have hp12 := ne_of_false hc11
      rw [if_neg hp12] at hm
      refine W.skip ?_
      refine WN.seq ?_
      refine W.seq ?_
      obtain ⟨s14, hs15, hk16⟩ := bind_some hm
      clear hm
      refine W.join (fun s : Bool => s = s14) (fun s => [(43, (tB.is s)), (0, ((tL tapi_Destination).is a))]) (fun s => []) ?_ ?_
      · rintro v1 hj52
        try dsimp only at hj52
        subst hj52
        have hm := hk16
        clear hk16
        try dsimp only at hm
        change W _ _ _ _ _ _ _ [(43, (tB.is v1)), (0, ((tL tapi_Destination).is a))] []
        refine W.cond (.tmp rfl) (fun hc25 => ?_) (fun hc25 => ?_)
        · have hp26 := hc25
          rw [if_pos hp26] at hm
          refine W.sr ?_
          refine WL.op rfl (Op1.assign .bool) ?_
          refine WL.ns ?_
          cases hm
          exact W.ret1 () rfl (.tmp rfl) trivial
        · have hp26 := ne_of_false hc25
          rw [if_neg hp26] at hm
          refine W.skip ?_
          refine WN.seq ?_
          refine W.seq ?_
          refine W.sr ?_
          refine WL.mv rfl rfl ?_
          obtain ⟨valid1, hv27, hm⟩ := bind_some hm
          refine WL.op rfl (Op1.call Tryd.call15 (destinations_Valid_spec _ _ hv27) ⟨(.tmp rfl), trivial⟩) ?_
          refine WL.op rfl (Op1.notB (.tmp rfl)) ?_
          refine WL.ns ?_
          refine W.cond (.tmp rfl) (fun hc28 => ?_) (fun hc28 => ?_)
          · have hp29 := not_pos hc28
            rw [if_pos hp29] at hm
            refine W.sr ?_
            refine WL.op rfl (Op1.assign .bool) ?_
            refine WL.ns ?_
            cases hm
            exact W.ret1 () rfl (.tmp rfl) trivial
          · have hp29 := not_neg hc28
            rw [if_neg hp29] at hm
            refine W.skip ?_
            refine WN.seq ?_
            refine W.sr ?_
            refine WL.mv rfl rfl ?_
            refine WL.mv rfl rfl ?_
            obtain ⟨invert, hv30, hm⟩ := bind_some hm
            refine WL.op rfl (Op1.call Tryd.call17 (destinations_Invert_spec _ _ hv30) ⟨(.tmp rfl), trivial⟩) ?_
            obtain ⟨compos4, hv31, hm⟩ := bind_some hm
            refine WL.op rfl (Op1.call Tryd.call19 (destinations_Compose_spec _ _ _ _ hv31) ⟨(.tmp rfl), (.tmp rfl), trivial⟩) ?_
            refine WL.gv rfl rfl ?_
            refine WL.ns ?_
            refine W.seq ?_
            refine W.sr ?_
            refine WL.mv rfl rfl ?_
            refine WL.op rfl (Op1.lenL Tryd.underlying22 (.tmp rfl)) ?_
            refine WL.op rfl (Op1.move (.int (inR64.2 (by omega)))) ?_
            refine WL.ns ?_
            refine W.block ?_
            obtain ⟨s32, hs33, hk34⟩ := bind_some hm
            clear hm
            refine W.loop (fun m (s : Int × List api_Destination × List api_Destination × Unit) => m = s.2.2.1.length ∧ compos4 = s.2.1 ++ s.2.2.1 ∧ s.1 = (s.2.1.length : Int) ∧ M.law47_DestinationsIdentity_loop1 a s.2.2.1 s.1 = some s32) (fun s => [(53, ((tI .i64).is s.1)), (0, ((tL tapi_Destination).is a)), (7, ((tL tapi_Destination).is compos4)), (51, ((tL tapi_Destination).is compos4)), (52, ((tI .i64).is (compos4.length : Int)))]) (fun s => []) compos4.length ((0 : Int), [], compos4, ()) ⟨rfl, rfl, rfl, hs33⟩ ⟨Ent.q rfl, Ent.q rfl, Ent.q rfl, Ent.q rfl, Ent.q rfl, trivial⟩ trivial ?_
            rintro m ⟨i, pre, rest1, _⟩ ⟨hn38, hxs35, hi36, hm⟩
            try dsimp only at hn38 hxs35 hi36 hm
            change W _ _ _ _ _ _ _ [(53, ((tI .i64).is i)), (0, ((tL tapi_Destination).is a)), (7, ((tL tapi_Destination).is compos4)), (51, ((tL tapi_Destination).is compos4)), (52, ((tI .i64).is (compos4.length : Int)))] []
            refine W.lenL (s := 51) (.tmp rfl) fun hlen37 => ?_
            refine W.sr ?_
            refine WL.op rfl (Op1.ltI (.tmp rfl) (.tmp rfl)) ?_
            refine WL.ns ?_
            refine W.seq ?_
            refine W.cond (.tmp rfl) (fun hc40 => ?_) (fun hc40 => ?_)
            · have hp41 := of_decide_eq_true hc40
              obtain ⟨e, es, hrest43⟩ := range_more hxs35 hi36 hp41
              subst hrest43
              rw [M.law47_DestinationsIdentity_loop1.eq_2] at hm
              refine W.skip ?_
              refine WN.seq ?_
              refine W.seq ?_
              refine W.block ?_
              refine W.sr ?_
              refine WL.mv rfl rfl ?_
              refine WL.op rfl (Op1.idxPre hxs35 hi36 Tryd.underlying22 Tryd.sizeOf36 (.tmp rfl) (.tmp rfl)) ?_
              refine WL.op rfl (Op1.load ty36 (.tmp rfl)) ?_
              refine WL.opR rfl (OpR.alloc 9 ze36) (fun b1 => ?_)
              refine WL.gv rfl rfl ?_
              refine WL.opU (OpR.storeB (b := b1) 9 Tryd.sizeOf36 (Cellable.is tapi_Destination e) rfl (.tmp rfl) (.tmp rfl)) (fun _ => ?_)
              refine WL.sealed (t := tapi_Destination) (u := e) 9 9 rfl rfl ?_
              refine WL.ns ?_
              refine W.seq ?_
              rcases bcases (decide (e.From ≠ e.To)) with hb44 | hb44
              · have hp45 := of_decide_eq_true hb44
                rw [if_pos hp45] at hm
                refine W.draw [.c (tapi_Id.ptr e.From), .c (tapi_Id.is e.From), .c (tapi_Id.ptr e.To), .c (tapi_Id.is e.To), .c (tB.is (decide (e.From ≠ e.To))), .c (tB.is (decide (e.From ≠ e.To))), .c (Asn.eq undef), .c (Asn.eq undef), .c (Asn.eq undef), .c (Asn.eq undef), .c (Asn.eq undef), .c (Asn.eq undef), .c (Asn.eq undef), .c (Asn.eq undef), .c (tB.is true)] [([], [9]), ([0], []), ([], [9]), ([2], []), ([1, 3], []), ([4], []), ([5], [9]), ([5, 6], []), ([5], [0]), ([5], [8]), ([5, 8, 9], []), ([5, 10], []), ([5, 11], []), ([5, 7, 12], []), ([5, 13], [])] Tryd.mixed rfl rfl rfl rfl ⟨.inr (Op1.fieldAddr Tryd.underlying36 rfl (fun w => ⟨2, Tryd.sizeOf24 w⟩) fapi_Destination_0 (.tmp rfl)), .inr (Op1.load ty24 (.tmp rfl)), .inr (Op1.fieldAddr Tryd.underlying36 rfl (fun w => ⟨2, Tryd.sizeOf24 w⟩) fapi_Destination_1 (.tmp rfl)), .inr (Op1.load ty24 (.tmp rfl)), .inr (Op1.neSt (D := 2) rfl (by decide) eg24 eq24 (.tmp rfl) (.tmp rfl)), .inr (Op1.move (.tmp rfl)), .inr ⟨_, _, _, rfl, rfl, .inl ⟨rfl, .inr ⟨hb44, rfl⟩⟩⟩, .inr ⟨_, _, _, rfl, rfl, .inl ⟨rfl, .inr ⟨hb44, rfl⟩⟩⟩, .inr ⟨_, _, _, rfl, rfl, .inl ⟨rfl, .inr ⟨hb44, rfl⟩⟩⟩, .inr ⟨_, _, _, rfl, rfl, .inl ⟨rfl, .inr ⟨hb44, rfl⟩⟩⟩, .inr ⟨_, _, _, rfl, rfl, .inl ⟨rfl, .inr ⟨hb44, rfl⟩⟩⟩, .inr ⟨_, _, _, rfl, rfl, .inl ⟨rfl, .inr ⟨hb44, rfl⟩⟩⟩, .inr ⟨_, _, _, rfl, rfl, .inl ⟨rfl, .inr ⟨hb44, rfl⟩⟩⟩, .inr ⟨_, _, _, rfl, rfl, .inl ⟨rfl, .inr ⟨hb44, rfl⟩⟩⟩, .inr (Op1.pickT (.tmp rfl) hb44 .bool), trivial⟩ ?_
                refine WN.seq ?_
                refine W.condT (.tmp rfl) ?_
                refine W.sr ?_
                refine WL.op rfl (Op1.assign .bool) ?_
                refine WL.ns ?_
                have hr46 := Option.some.inj hm
                clear hm
                subst hr46
                have hm := hk34
                try dsimp only at hm
                cases hm
                exact W.ret1 () rfl (.tmp rfl) trivial
              · have hp45 := of_decide_eq_false hb44
                rw [if_neg hp45] at hm
                obtain ⟨v2, hv47, hm⟩ := bind_some hm
                refine W.draw [.c (tapi_Id.ptr e.From), .c (tapi_Id.is e.From), .c (tapi_Id.ptr e.To), .c (tapi_Id.is e.To), .c (tB.is (decide (e.From ≠ e.To))), .c (tB.is (decide (e.From ≠ e.To))), .c (tapi_Id.ptr e.From), .c (tapi_Id.is e.From), .c ((tL tapi_Destination).is a), .c ((tI .i64).is i), .c (tapi_Destination.ptr v2), .c (tapi_Id.ptr v2.From), .c (tapi_Id.is v2.From), .c (tB.is (decide (e.From ≠ v2.From))), .c (tB.is (decide (e.From ≠ v2.From)))] [([], [9]), ([0], []), ([], [9]), ([2], []), ([1, 3], []), ([4], []), ([5], [9]), ([5, 6], []), ([5], [0]), ([5], [8]), ([5, 8, 9], []), ([5, 10], []), ([5, 11], []), ([5, 7, 12], []), ([5, 13], [])] Tryd.mixed rfl rfl rfl rfl ⟨.inr (Op1.fieldAddr Tryd.underlying36 rfl (fun w => ⟨2, Tryd.sizeOf24 w⟩) fapi_Destination_0 (.tmp rfl)), .inr (Op1.load ty24 (.tmp rfl)), .inr (Op1.fieldAddr Tryd.underlying36 rfl (fun w => ⟨2, Tryd.sizeOf24 w⟩) fapi_Destination_1 (.tmp rfl)), .inr (Op1.load ty24 (.tmp rfl)), .inr (Op1.neSt (D := 2) rfl (by decide) eg24 eq24 (.tmp rfl) (.tmp rfl)), .inr (Op1.move (.tmp rfl)), .inr ⟨_, _, _, rfl, rfl, .inl ⟨rfl, .inl ⟨hb44, Op1.fieldAddr Tryd.underlying36 rfl (fun w => ⟨2, Tryd.sizeOf24 w⟩) fapi_Destination_0 (.tmp rfl)⟩⟩⟩, .inr ⟨_, _, _, rfl, rfl, .inl ⟨rfl, .inl ⟨hb44, Op1.load ty24 (.tmp rfl)⟩⟩⟩, .inr ⟨_, _, _, rfl, rfl, .inl ⟨rfl, .inl ⟨hb44, Op1.move (.tmp rfl)⟩⟩⟩, .inr ⟨_, _, _, rfl, rfl, .inl ⟨rfl, .inl ⟨hb44, Op1.move (.tmp rfl)⟩⟩⟩, .inr ⟨_, _, _, rfl, rfl, .inl ⟨rfl, .inl ⟨hb44, Op1.idx hv47 Tryd.underlying22 Tryd.sizeOf36 (.tmp rfl) (.tmp rfl)⟩⟩⟩, .inr ⟨_, _, _, rfl, rfl, .inl ⟨rfl, .inl ⟨hb44, Op1.fieldAddr Tryd.underlying36 rfl (fun w => ⟨2, Tryd.sizeOf24 w⟩) fapi_Destination_0 (.tmp rfl)⟩⟩⟩, .inr ⟨_, _, _, rfl, rfl, .inl ⟨rfl, .inl ⟨hb44, Op1.load ty24 (.tmp rfl)⟩⟩⟩, .inr ⟨_, _, _, rfl, rfl, .inl ⟨rfl, .inl ⟨hb44, Op1.neSt (D := 2) rfl (by decide) eg24 eq24 (.tmp rfl) (.tmp rfl)⟩⟩⟩, .inr (Op1.pickF (.tmp rfl) hb44 (.tmp rfl)), trivial⟩ ?_
                refine WN.seq ?_
                refine W.cond (.tmp rfl) (fun hc48 => ?_) (fun hc48 => ?_)
                · have hp49 := of_decide_eq_true hc48
                  rw [if_pos hp49] at hm
                  refine W.sr ?_
                  refine WL.op rfl (Op1.assign .bool) ?_
                  refine WL.ns ?_
                  have hr50 := Option.some.inj hm
                  clear hm
                  subst hr50
                  have hm := hk34
                  try dsimp only at hm
                  cases hm
                  exact W.ret1 () rfl (.tmp rfl) trivial
                · have hp49 := of_decide_eq_false hc48
                  rw [if_neg hp49] at hm
                  refine W.skip ?_
                  refine WN.block ?_
                  refine WN.seq ?_
                  refine W.region ?_
                  refine WL.op rfl (Op1.addI (.tmp rfl) (.int (inR64.2 (by omega))) (range_inR hi36 hp41 hlen37)) ?_
                  refine WL.mv rfl rfl ?_
                  refine WL.nil ?_
                  exact WN.again es.length (i + 1, pre ++ [e], es, ()) (range_lt hn38) ⟨rfl, range_step hxs35, range_idx hi36, hm⟩ ⟨Ent.q rfl, Ent.q rfl, Ent.q rfl, Ent.q rfl, Ent.q rfl, trivial⟩ trivial
            · have hrest43 := range_end hxs35 hi36 (of_decide_eq_false hc40)
              subst hrest43
              rw [M.law47_DestinationsIdentity_loop1.eq_1] at hm
              refine W.exit rfl ?_
              have hr51 := Option.some.inj hm
              clear hm
              subst hr51
              have hm := hk34
              try dsimp only at hm
              refine WN.seq ?_
              refine W.sr ?_
              refine WL.mv rfl rfl ?_
              refine WL.op rfl (Op1.lenL Tryd.underlying22 (.tmp rfl)) ?_
              refine WL.mv rfl rfl ?_
              refine WL.op rfl (Op1.lenL Tryd.underlying22 (.tmp rfl)) ?_
              refine WL.op rfl (Op1.eqI (.tmp rfl) (.tmp rfl)) ?_
              refine WL.gv rfl rfl ?_
              refine WL.ns ?_
              cases hm
              exact W.ret1 () rfl (.tmp rfl) trivial
      · have hm := hs15
        clear hs15
        refine W.region ?_
        refine WL.mv rfl rfl ?_
        refine WL.mv rfl rfl ?_
        obtain ⟨compos, hv17, hm⟩ := bind_some hm
        refine WL.op rfl (Op1.call Tryd.call19 (destinations_Compose_spec _ _ _ _ hv17) ⟨(.tmp rfl), (.tmp rfl), trivial⟩) ?_
        refine WL.mv rfl rfl ?_
        obtain ⟨compos1, hv18, hm⟩ := bind_some hm
        refine WL.op rfl (Op1.call Tryd.call19 (destinations_Compose_spec _ _ _ _ hv18) ⟨(.tmp rfl), (.tmp rfl), trivial⟩) ?_
        refine WL.mv rfl rfl ?_
        refine WL.mv rfl rfl ?_
        refine WL.mv rfl rfl ?_
        obtain ⟨compos2, hv19, hm⟩ := bind_some hm
        refine WL.op rfl (Op1.call Tryd.call19 (destinations_Compose_spec _ _ _ _ hv19) ⟨(.tmp rfl), (.tmp rfl), trivial⟩) ?_
        obtain ⟨compos3, hv20, hm⟩ := bind_some hm
        refine WL.op rfl (Op1.call Tryd.call19 (destinations_Compose_spec _ _ _ _ hv20) ⟨(.tmp rfl), (.tmp rfl), trivial⟩) ?_
        obtain ⟨same, hv21, hm⟩ := bind_some hm
        refine WL.op rfl (Op1.call Tryd.call18 (r47_Same_spec _ _ _ _ hv21) ⟨(.tmp rfl), (.tmp rfl), trivial⟩) ?_
        refine WL.op rfl (Op1.notB (.tmp rfl)) ?_
        refine WL.mv rfl rfl ?_
        rcases bcases (!same) with hb22 | hb22
        · have hp23 := not_pos hb22
          rw [if_pos hp23] at hm
          refine WL.run rfl rfl rfl rfl hb22 rfl rfl (Op1.move (.tmp rfl)) ?_
          obtain ⟨valid, hv24, hm⟩ := bind_some hm
          refine WL.run rfl rfl rfl rfl hb22 rfl rfl (Op1.call Tryd.call15 (destinations_Valid_spec _ _ hv24) ⟨(.tmp rfl), trivial⟩) ?_
          refine WL.op rfl (Op1.pickT (.tmp rfl) hb22 (.tmp rfl)) ?_
          refine WL.nil ?_
          exact WN.meet valid (Option.some.inj hm) ⟨Ent.q rfl, Ent.q rfl, trivial⟩ trivial
        · have hp23 := not_neg hb22
          rw [if_neg hp23] at hm
          refine WL.pass rfl rfl rfl rfl hb22 rfl rfl ?_
          refine WL.pass rfl rfl rfl rfl hb22 rfl rfl ?_
          refine WL.op rfl (Op1.pickF (.tmp rfl) hb22 .bool) ?_
          refine WL.nil ?_
          exact WN.meet false (Option.some.inj hm) ⟨Ent.q rfl, Ent.q rfl, trivial⟩ trivial
  · have hm := hs2
    clear hs2
    refine W.region ?_
    obtain ⟨awake, hv4, hm⟩ := bind_some hm
    refine WL.op rfl (Op1.call Tryd.call10 (law47_awake_spec _ _ hv4) trivial) ?_
    refine WL.op rfl (Op1.notB (.tmp rfl)) ?_
    refine WL.mv rfl rfl ?_
    rcases bcases (!awake) with hb5 | hb5
    · have hp6 := not_pos hb5
      rw [if_pos hp6] at hm
      refine WL.pass rfl rfl rfl rfl hb5 rfl rfl ?_
      refine WL.pass rfl rfl rfl rfl hb5 rfl rfl ?_
      refine WL.pass rfl rfl rfl rfl hb5 rfl rfl ?_
      refine WL.op rfl (Op1.pickT (.tmp rfl) hb5 .bool) ?_
      refine WL.mv rfl rfl ?_
      refine WL.pass rfl rfl rfl rfl rfl rfl rfl ?_
      refine WL.pass rfl rfl rfl rfl rfl rfl rfl ?_
      refine WL.pass rfl rfl rfl rfl rfl rfl rfl ?_
      refine WL.op rfl (Op1.pickT (.tmp rfl) rfl .bool) ?_
      refine WL.mv rfl rfl ?_
      refine WL.pass rfl rfl rfl rfl rfl rfl rfl ?_
      refine WL.pass rfl rfl rfl rfl rfl rfl rfl ?_
      refine WL.pass rfl rfl rfl rfl rfl rfl rfl ?_
      refine WL.op rfl (Op1.pickT (.tmp rfl) rfl .bool) ?_
      refine WL.nil ?_
      exact WN.meet true (Option.some.inj hm) ⟨Ent.q rfl, Ent.q rfl, Ent.q rfl, Ent.q rfl, trivial⟩ trivial
    · have hp6 := not_neg hb5
      rw [if_neg hp6] at hm
      refine WL.run rfl rfl rfl rfl hb5 rfl rfl (Op1.move (.tmp rfl)) ?_
      refine WL.run rfl rfl rfl rfl hb5 rfl rfl (Op1.lenL Tryd.underlying22 (.tmp rfl)) ?_
      refine WL.run rfl rfl rfl rfl hb5 rfl rfl (Op1.gtI (.tmp rfl) (.int (inR64.2 (by omega)))) ?_
      refine WL.op rfl (Op1.pickF (.tmp rfl) hb5 (.tmp rfl)) ?_
      refine WL.mv rfl rfl ?_
      rcases bcases (decide ((30 : Int) < (a.length : Int))) with hb7 | hb7
      · have hp8 := of_decide_eq_true hb7
        rw [if_pos hp8] at hm
        refine WL.pass rfl rfl rfl rfl hb7 rfl rfl ?_
        refine WL.pass rfl rfl rfl rfl hb7 rfl rfl ?_
        refine WL.pass rfl rfl rfl rfl hb7 rfl rfl ?_
        refine WL.op rfl (Op1.pickT (.tmp rfl) hb7 .bool) ?_
        refine WL.mv rfl rfl ?_
        refine WL.pass rfl rfl rfl rfl rfl rfl rfl ?_
        refine WL.pass rfl rfl rfl rfl rfl rfl rfl ?_
        refine WL.pass rfl rfl rfl rfl rfl rfl rfl ?_
        refine WL.op rfl (Op1.pickT (.tmp rfl) rfl .bool) ?_
        refine WL.nil ?_
        exact WN.meet true (Option.some.inj hm) ⟨Ent.q rfl, Ent.q rfl, Ent.q rfl, Ent.q rfl, trivial⟩ trivial
      · have hp8 := of_decide_eq_false hb7
        rw [if_neg hp8] at hm
        refine WL.run rfl rfl rfl rfl hb7 rfl rfl (Op1.move (.tmp rfl)) ?_
        refine WL.run rfl rfl rfl rfl hb7 rfl rfl (Op1.lenL Tryd.underlying22 (.tmp rfl)) ?_
        refine WL.run rfl rfl rfl rfl hb7 rfl rfl (Op1.gtI (.tmp rfl) (.int (inR64.2 (by omega)))) ?_
        refine WL.op rfl (Op1.pickF (.tmp rfl) hb7 (.tmp rfl)) ?_
        refine WL.mv rfl rfl ?_
        rcases bcases (decide ((30 : Int) < (b.length : Int))) with hb9 | hb9
        · have hp10 := of_decide_eq_true hb9
          rw [if_pos hp10] at hm
          refine WL.pass rfl rfl rfl rfl hb9 rfl rfl ?_
          refine WL.pass rfl rfl rfl rfl hb9 rfl rfl ?_
          refine WL.pass rfl rfl rfl rfl hb9 rfl rfl ?_
          refine WL.op rfl (Op1.pickT (.tmp rfl) hb9 .bool) ?_
          refine WL.nil ?_
          exact WN.meet true (Option.some.inj hm) ⟨Ent.q rfl, Ent.q rfl, Ent.q rfl, Ent.q rfl, trivial⟩ trivial
        · have hp10 := of_decide_eq_false hb9
          rw [if_neg hp10] at hm
          refine WL.run rfl rfl rfl rfl hb9 rfl rfl (Op1.move (.tmp rfl)) ?_
          refine WL.run rfl rfl rfl rfl hb9 rfl rfl (Op1.lenL Tryd.underlying22 (.tmp rfl)) ?_
          refine WL.run rfl rfl rfl rfl hb9 rfl rfl (Op1.gtI (.tmp rfl) (.int (inR64.2 (by omega)))) ?_
          refine WL.op rfl (Op1.pickF (.tmp rfl) hb9 (.tmp rfl)) ?_
          refine WL.nil ?_
          exact WN.meet (decide ((30 : Int) < (c.length : Int))) (Option.some.inj hm) ⟨Ent.q rfl, Ent.q rfl, Ent.q rfl, Ent.q rfl, trivial⟩ trivial

theorem r07_few_spec : ∀ (n : Nat) (u : api_Unit) (left : Int) (deep : Int) (r : Int), M.r07_few n u left deep = some r → FSpec Tryd.prog 32 [(tapi_Unit.is u), ((tI .i64).is left), ((tI .i64).is deep)] ((tI .i64).is r) := by
  intro n
  induction n with
  | zero => intro u left deep r hm; cases hm
  | succ n ih =>
    intro u left deep r hm
    rw [M.r07_few.eq_2] at hm
    refine FSpec.of Tryd.func32 rfl rfl rfl (fun g0 => ?_)
    refine W.sr ?_
    refine WL.op rfl (Op1.box (.tmp rfl)) ?_
    refine WL.op rfl (Op1.assign (.int (inR64.2 (by omega)))) ?_
    refine WL.nr ?_
    refine WL.mv rfl rfl ?_
    obtain ⟨v, hv1, hm⟩ := bind_some hm
    refine WL.op rfl (Op1.subC hv1 (.tmp rfl) (.int (inR64.2 (by omega)))) ?_
    refine WL.op rfl (Op1.fieldAddr Tryd.underlying43 rfl (fun w => ⟨0, Tryd.sizeOf40 w⟩) fapi_Unit_4 (.tmp rfl)) ?_
    refine WL.op rfl (Op1.load ty40 (.tmp rfl)) ?_
    refine WL.op rfl (Op1.lenL Tryd.underlying40 (.tmp rfl)) ?_
    obtain ⟨v1, hv2, hm⟩ := bind_some hm
    refine WL.op rfl (Op1.quoC hv2 (.tmp rfl) (.int (inR64.2 (by omega)))) ?_
    obtain ⟨v2, hv3, hm⟩ := bind_some hm
    refine WL.op rfl (Op1.subC hv3 (.tmp rfl) (.tmp rfl)) ?_
    refine WL.op rfl (Op1.fieldAddr Tryd.underlying43 rfl (fun w => ⟨0, Tryd.sizeOf40 w⟩) fapi_Unit_3 (.tmp rfl)) ?_
    refine WL.op rfl (Op1.load ty40 (.tmp rfl)) ?_
    refine WL.op rfl (Op1.lenL Tryd.underlying40 (.tmp rfl)) ?_
    obtain ⟨v3, hv4, hm⟩ := bind_some hm
    refine WL.op rfl (Op1.quoC hv4 (.tmp rfl) (.int (inR64.2 (by omega)))) ?_
    obtain ⟨v4, hv5, hm⟩ := bind_some hm
    refine WL.op rfl (Op1.subC hv5 (.tmp rfl) (.tmp rfl)) ?_
    refine WL.op rfl (Op1.fieldAddr Tryd.underlying43 rfl (fun w => ⟨0, Tryd.sizeOf9 w⟩) fapi_Unit_2 (.tmp rfl)) ?_
    refine WL.op rfl (Op1.load ty9 (.tmp rfl)) ?_
    refine WL.op rfl (Op1.lenS Tryd.underlying9 (.tmp rfl)) ?_
    obtain ⟨v5, hv6, hm⟩ := bind_some hm
    refine WL.op rfl (Op1.quoC hv6 (.tmp rfl) (.int (inR64.2 (by omega)))) ?_
    obtain ⟨v6, hv7, hm⟩ := bind_some hm
    refine WL.op rfl (Op1.subC hv7 (.tmp rfl) (.tmp rfl)) ?_
    refine WL.gv rfl rfl ?_
    refine WL.ns ?_
    refine W.seq ?_
    refine W.sr ?_
    refine WL.mv rfl rfl ?_
    refine WL.op rfl (Op1.gtI (.tmp rfl) (.int (inR64.2 (by omega)))) ?_
    refine WL.ns ?_
    refine W.cond (.tmp rfl) (fun hc8 => ?_) (fun hc8 => ?_)
    · have hp9 := of_decide_eq_true hc8
      rw [if_pos hp9] at hm
      refine W.sr ?_
      refine WL.op rfl (Op1.assign (.int (inR64.2 (by omega)))) ?_
      refine WL.ns ?_
      cases hm
      exact W.ret1 () rfl (.tmp rfl) trivial
    · have hp9 := of_decide_eq_false hc8
      rw [if_neg hp9] at hm
      refine W.skip ?_
      refine WN.seq ?_
      refine W.seq ?_
      refine W.sr ?_
      refine WL.op rfl (Op1.assign (.int (inR64.2 (by omega)))) ?_
      refine WL.ns ?_
      refine W.block ?_
      obtain ⟨s10, hs11, hk12⟩ := bind_some hm
      clear hm
      refine W.loop (fun m (s : Int × Int) => M.r07_few_loop1 u deep (M.r07_few n) m s.1 s.2 = some s10) (fun s => [(1, ((tI .i64).is s.1)), (7, ((tI .i64).is s.2)), (2, ((tI .i64).is deep)), (3, (tapi_Unit.ptr u))]) (fun s => []) _ (v6, (0 : Int)) hs11 ⟨Ent.q rfl, Ent.q rfl, Ent.q rfl, Ent.q rfl, trivial⟩ trivial ?_
      rintro n13 ⟨left1, i⟩ hm
      try dsimp only at hm
      change W _ _ _ _ _ _ _ [(1, ((tI .i64).is left1)), (7, ((tI .i64).is i)), (2, ((tI .i64).is deep)), (3, (tapi_Unit.ptr u))] []
      cases n13 with
      | zero => rw [M.r07_few_loop1.eq_1] at hm; cases hm
      | succ n13 =>
        rw [M.r07_few_loop1.eq_2] at hm
        refine W.seq ?_
        obtain ⟨s14, hs15, hk16⟩ := bind_some hm
        clear hm
        refine W.join (fun s : Bool => s = s14) (fun s => [(35, (tB.is s)), (1, ((tI .i64).is left1)), (2, ((tI .i64).is deep)), (3, (tapi_Unit.ptr u)), (7, ((tI .i64).is i))]) (fun s => []) ?_ ?_
        · rintro v7 hj26
          try dsimp only at hj26
          subst hj26
          have hm := hk16
          clear hk16
          try dsimp only at hm
          change W _ _ _ _ _ _ _ [(35, (tB.is v7)), (1, ((tI .i64).is left1)), (2, ((tI .i64).is deep)), (3, (tapi_Unit.ptr u)), (7, ((tI .i64).is i))] []
          refine W.cond (.tmp rfl) (fun hc19 => ?_) (fun hc19 => ?_)
          · have hp20 := hc19
            rw [if_pos hp20] at hm
            refine W.skip ?_
            refine WN.seq ?_
            refine W.seq ?_
            refine W.block ?_
            refine W.region ?_
            refine WL.op rfl (Op1.fieldAddr Tryd.underlying43 rfl (fun w => ⟨0, Tryd.sizeOf41 w⟩) fapi_Unit_5 (.tmp rfl)) ?_
            refine WL.op rfl (Op1.load ty41 (.tmp rfl)) ?_
            refine WL.mv rfl rfl ?_
            obtain ⟨v8, hv21, hm⟩ := bind_some hm
            refine WL.op rfl (Op1.idx hv21 Tryd.underlying41 Tryd.sizeOf43 (.tmp rfl) (.tmp rfl)) ?_
            refine WL.op rfl (Op1.load ty43 (.tmp rfl)) ?_
            refine WL.mv rfl rfl ?_
            refine WL.mv rfl rfl ?_
            obtain ⟨v9, hv22, hm⟩ := bind_some hm
            refine WL.op rfl (Op1.addC hv22 (.tmp rfl) (.int (inR64.2 (by omega)))) ?_
            obtain ⟨few, hv23, hm⟩ := bind_some hm
            refine WL.op rfl (Op1.call Tryd.call32 (ih _ _ _ _ hv23) ⟨(.tmp rfl), (.tmp rfl), (.tmp rfl), trivial⟩) ?_
            refine WL.gv rfl rfl ?_
            refine WL.nil ?_
            refine WN.block ?_
            refine WN.seq ?_
            refine W.region ?_
            refine WL.mv rfl rfl ?_
            obtain ⟨v10, hv24, hm⟩ := bind_some hm
            refine WL.op rfl (Op1.addC hv24 (.tmp rfl) (.int (inR64.2 (by omega)))) ?_
            refine WL.gv rfl rfl ?_
            refine WL.nil ?_
            exact WN.again n13 (few, v10) (Nat.lt_succ_self n13) hm ⟨Ent.q rfl, Ent.q rfl, Ent.q rfl, Ent.q rfl, trivial⟩ trivial
          · have hp20 := ne_of_false hc19
            rw [if_neg hp20] at hm
            refine W.exit rfl ?_
            have hr25 := Option.some.inj hm
            clear hm
            subst hr25
            have hm := hk12
            try dsimp only at hm
            refine WN.seq ?_
            refine W.sr ?_
            refine WL.mv rfl rfl ?_
            refine WL.gv rfl rfl ?_
            refine WL.ns ?_
            cases hm
            exact W.ret1 () rfl (.tmp rfl) trivial
        · have hm := hs15
          clear hs15
          refine W.region ?_
          refine WL.mv rfl rfl ?_
          refine WL.op rfl (Op1.fieldAddr Tryd.underlying43 rfl (fun w => ⟨0, Tryd.sizeOf41 w⟩) fapi_Unit_5 (.tmp rfl)) ?_
          refine WL.op rfl (Op1.load ty41 (.tmp rfl)) ?_
          refine WL.op rfl (Op1.lenL Tryd.underlying41 (.tmp rfl)) ?_
          refine WL.op rfl (Op1.ltI (.tmp rfl) (.tmp rfl)) ?_
          refine WL.mv rfl rfl ?_
          rcases bcases (decide (i < (u.Kids.length : Int))) with hb17 | hb17
          · have hp18 := of_decide_eq_true hb17
            rw [if_pos hp18] at hm
            refine WL.run rfl rfl rfl rfl hb17 rfl rfl (Op1.move (.tmp rfl)) ?_
            refine WL.run rfl rfl rfl rfl hb17 rfl rfl (Op1.geI (.tmp rfl) (.int (inR64.2 (by omega)))) ?_
            refine WL.op rfl (Op1.pickT (.tmp rfl) hb17 (.tmp rfl)) ?_
            refine WL.nil ?_
            exact WN.meet (decide ((0 : Int) ≤ left1)) (Option.some.inj hm) ⟨Ent.q rfl, Ent.q rfl, Ent.q rfl, Ent.q rfl, Ent.q rfl, trivial⟩ trivial
          · have hp18 := of_decide_eq_false hb17
            rw [if_neg hp18] at hm
            refine WL.pass rfl rfl rfl rfl hb17 rfl rfl ?_
            refine WL.pass rfl rfl rfl rfl hb17 rfl rfl ?_
            refine WL.op rfl (Op1.pickF (.tmp rfl) hb17 .bool) ?_
            refine WL.nil ?_
            exact WN.meet false (Option.some.inj hm) ⟨Ent.q rfl, Ent.q rfl, Ent.q rfl, Ent.q rfl, Ent.q rfl, trivial⟩ trivial

theorem r07_Few_spec (n : Nat) (u : api_Unit) (most : Int) (r : Bool) (hm : M.r07_Few n u most = some r) : FSpec Tryd.prog 21 [(tapi_Unit.is u), ((tI .i64).is most)] (tB.is r) := by
  unfold M.r07_Few at hm
  refine FSpec.of Tryd.func21 rfl rfl rfl (fun g0 => ?_)
  refine W.sr ?_
  refine WL.op rfl (Op1.box (.tmp rfl)) ?_
  refine WL.op rfl (Op1.assign .bool) ?_
  refine WL.nr ?_
  refine WL.op rfl (Op1.load ty43 (.tmp rfl)) ?_
  refine WL.mv rfl rfl ?_
  obtain ⟨few, hv1, hm⟩ := bind_some hm
  refine WL.op rfl (Op1.call Tryd.call32 (r07_few_spec _ _ _ _ _ hv1) ⟨(.tmp rfl), (.tmp rfl), (.int (inR64.2 (by omega))), trivial⟩) ?_
  refine WL.op rfl (Op1.geI (.tmp rfl) (.int (inR64.2 (by omega)))) ?_
  refine WL.gv rfl rfl ?_
  refine WL.ns ?_
  cases hm
  exact W.ret1 () rfl (.tmp rfl) trivial

end Go.Proofs.YtdnemlcoeecbjaaDoor
