/-
  The code does what the models say: written by program.
-/
import Derived.Test.YtfclekegoleiaaaWa
set_option linter.unusedVariables false
set_option linter.unusedSimpArgs false
namespace Go.Proofs.Ytfclekegoleiaaa
open Go Go.Dec

set_option maxRecDepth 100000
set_option maxHeartbeats 4000000
theorem r03_digits_spec (n : Nat) (s0_ : Str) (r : Int) (hm : M.r03_digits n s0_ = some r) : FSpec Try.prog 88 [(tS.is s0_)] ((tI .i64).is r) := by
  unfold M.r03_digits at hm
  refine FSpec.of Try.func88 rfl rfl rfl (fun g0 => ?_)
  refine W.sr ?_
  refine WL.op rfl (Op1.assign (.int (inR64.2 (by omega)))) ?_
  refine WL.nr ?_
  refine WL.op rfl (Op1.assign (.int (inR64.2 (by omega)))) ?_
  refine WL.ns ?_
  refine W.seq ?_
  refine W.block ?_
  obtain ⟨s1, hs2, hk3⟩ := bind_some hm
  clear hm
  refine W.loop (fun m (s : Int) => M.r03_digits_loop1 s0_ m s = some s1) (fun s => [(3, ((tI .i64).is s)), (0, (tS.is s0_))]) (fun s => []) _ (0 : Int) hs2 ⟨Ent.q rfl, Ent.q rfl, trivial⟩ trivial ?_
  rintro n4 n0_ hm
  try dsimp only at hm
  change W _ _ _ _ _ _ _ [(3, ((tI .i64).is n0_)), (0, (tS.is s0_))] []
  cases n4 with
  | zero => rw [M.r03_digits_loop1.eq_1] at hm; cases hm
  | succ n4 =>
    rw [M.r03_digits_loop1.eq_2] at hm
    refine W.seq ?_
    refine W.sr ?_
    refine WL.mv rfl rfl ?_
    refine WL.mv rfl rfl ?_
    refine WL.op rfl (Op1.lenS Try.underlying9 (.tmp rfl)) ?_
    refine WL.op rfl (Op1.ltI (.tmp rfl) (.tmp rfl)) ?_
    refine WL.mv rfl rfl ?_
    rcases bcases (decide (n0_ < (s0_.length : Int))) with hb5 | hb5
    · have hp6 := of_decide_eq_true hb5
      rw [if_pos hp6] at hm
      refine WL.run rfl rfl rfl rfl hb5 rfl rfl (Op1.move (.tmp rfl)) ?_
      refine WL.run rfl rfl rfl rfl hb5 rfl rfl (Op1.move (.tmp rfl)) ?_
      obtain ⟨b, hv7, hm⟩ := bind_some hm
      refine WL.run rfl rfl rfl rfl hb5 rfl rfl (Op1.sidx hv7 Try.underlying9 (.tmp rfl) (.tmp rfl)) ?_
      refine WL.run rfl rfl rfl rfl hb5 rfl rfl (Op1.geI (.tmp rfl) (.int (inR8.2 (by omega)))) ?_
      refine WL.op rfl (Op1.pickT (.tmp rfl) hb5 (.tmp rfl)) ?_
      refine WL.mv rfl rfl ?_
      rcases bcases (decide ((48 : Int) ≤ (b.toNat : Int))) with hb8 | hb8
      · have hp9 := of_decide_eq_true hb8
        rw [if_pos hp9] at hm
        refine WL.run rfl rfl rfl rfl hb8 rfl rfl (Op1.move (.tmp rfl)) ?_
        refine WL.run rfl rfl rfl rfl hb8 rfl rfl (Op1.move (.tmp rfl)) ?_
        obtain ⟨b1, hv10, hm⟩ := bind_some hm
        refine WL.run rfl rfl rfl rfl hb8 rfl rfl (Op1.sidx hv10 Try.underlying9 (.tmp rfl) (.tmp rfl)) ?_
        refine WL.run rfl rfl rfl rfl hb8 rfl rfl (Op1.leI (.tmp rfl) (.int (inR8.2 (by omega)))) ?_
        refine WL.op rfl (Op1.pickT (.tmp rfl) hb8 (.tmp rfl)) ?_
        refine WL.ns ?_
        refine W.cond (.tmp rfl) (fun hc11 => ?_) (fun hc11 => ?_)
        · have hp12 := of_decide_eq_true hc11
          rw [if_pos hp12] at hm
          refine W.skip ?_
          refine WN.seq ?_
          refine W.block ?_
          refine W.region ?_
          refine WL.mv rfl rfl ?_
          refine WL.lenS (s := 0) (.tmp rfl) fun hl13 => ?_
          refine WL.op rfl (Op1.addI1 (.tmp rfl) (.int (inR64.2 (by omega))) hp6 hl13) ?_
          refine WL.gv rfl rfl ?_
          refine WL.nil ?_
          refine WN.block ?_
          exact WN.again n4 (n0_ + 1) (Nat.lt_succ_self n4) hm ⟨Ent.q rfl, Ent.q rfl, trivial⟩ trivial
        · have hp12 := of_decide_eq_false hc11
          rw [if_neg hp12] at hm
          refine W.exit rfl ?_
          have hr14 := Option.some.inj hm
          clear hm
          subst hr14
          have hm := hk3
          try dsimp only at hm
          refine WN.seq ?_
          refine W.sr ?_
          refine WL.mv rfl rfl ?_
          refine WL.gv rfl rfl ?_
          refine WL.ns ?_
          cases hm
          exact W.ret1 () rfl (.tmp rfl) trivial
      · have hp9 := of_decide_eq_false hb8
        rw [if_neg hp9] at hm
        refine WL.pass rfl rfl rfl rfl hb8 rfl rfl ?_
        refine WL.pass rfl rfl rfl rfl hb8 rfl rfl ?_
        refine WL.pass rfl rfl rfl rfl hb8 rfl rfl ?_
        refine WL.pass rfl rfl rfl rfl hb8 rfl rfl ?_
        refine WL.op rfl (Op1.pickF (.tmp rfl) hb8 .bool) ?_
        refine WL.ns ?_
        refine W.condF (.tmp rfl) ?_
        refine W.exit rfl ?_
        have hr15 := Option.some.inj hm
        clear hm
        subst hr15
        have hm := hk3
        try dsimp only at hm
        refine WN.seq ?_
        refine W.sr ?_
        refine WL.mv rfl rfl ?_
        refine WL.gv rfl rfl ?_
        refine WL.ns ?_
        cases hm
        exact W.ret1 () rfl (.tmp rfl) trivial
    · have hp6 := of_decide_eq_false hb5
      rw [if_neg hp6] at hm
      refine WL.pass rfl rfl rfl rfl hb5 rfl rfl ?_
      refine WL.pass rfl rfl rfl rfl hb5 rfl rfl ?_
      refine WL.pass rfl rfl rfl rfl hb5 rfl rfl ?_
      refine WL.pass rfl rfl rfl rfl hb5 rfl rfl ?_
      refine WL.op rfl (Op1.pickF (.tmp rfl) hb5 .bool) ?_
      refine WL.mv rfl rfl ?_
      refine WL.pass rfl rfl rfl rfl rfl rfl rfl ?_
      refine WL.pass rfl rfl rfl rfl rfl rfl rfl ?_
      refine WL.pass rfl rfl rfl rfl rfl rfl rfl ?_
      refine WL.pass rfl rfl rfl rfl rfl rfl rfl ?_
      refine WL.op rfl (Op1.pickF (.tmp rfl) rfl .bool) ?_
      refine WL.ns ?_
      refine W.condF (.tmp rfl) ?_
      refine W.exit rfl ?_
      have hr16 := Option.some.inj hm
      clear hm
      subst hr16
      have hm := hk3
      try dsimp only at hm
      refine WN.seq ?_
      refine W.sr ?_
      refine WL.mv rfl rfl ?_
      refine WL.gv rfl rfl ?_
      refine WL.ns ?_
      cases hm
      exact W.ret1 () rfl (.tmp rfl) trivial

theorem r03_May_spec (n : Nat) (s0_ : Str) (r : Bool) (hm : M.r03_May n s0_ = some r) : FSpec Try.prog 76 [(tS.is s0_)] (tB.is r) := by
  unfold M.r03_May at hm
  refine FSpec.of Try.func76 rfl rfl rfl (fun g0 => ?_)
  refine W.sr ?_
  refine WL.op rfl (Op1.assign .bool) ?_
  refine WL.nr ?_
  refine WL.mv rfl rfl ?_
  obtain ⟨digits, hv1, hm⟩ := bind_some hm
  refine WL.op rfl (Op1.call Try.call88 (r03_digits_spec _ _ _ hv1) ⟨(.tmp rfl), trivial⟩) ?_
  refine WL.gv rfl rfl ?_
  refine WL.ns ?_
  refine W.seq ?_
  obtain ⟨s2, hs3, hk4⟩ := bind_some hm
  clear hm
  refine W.join (fun s : Bool => s = s2) (fun s => [(24, (tB.is s)), (0, (tS.is s0_)), (3, ((tI .i64).is digits))]) (fun s => []) ?_ ?_
  · rintro v hj31
    try dsimp only at hj31
    subst hj31
    have hm := hk4
    clear hk4
    try dsimp only at hm
    change W _ _ _ _ _ _ _ [(24, (tB.is v)), (0, (tS.is s0_)), (3, ((tI .i64).is digits))] []
    refine W.cond (.tmp rfl) (fun hc13 => ?_) (fun hc13 => ?_)
    · have hp14 := hc13
      rw [if_pos hp14] at hm
      refine W.sr ?_
      refine WL.op rfl (Op1.assign .bool) ?_
      refine WL.ns ?_
      cases hm
      exact W.ret1 () rfl (.tmp rfl) trivial
    · have hp14 := ne_of_false hc13
      rw [if_neg hp14] at hm
      refine W.skip ?_
      refine WN.seq ?_
      refine W.seq ?_
      refine W.sr ?_
      refine WL.mv rfl rfl ?_
      refine WL.gv rfl rfl ?_
      refine WL.ns ?_
      refine W.block ?_
      obtain ⟨s15, hs16, hk17⟩ := bind_some hm
      clear hm
      refine W.loop (fun m (s : Int) => M.r03_May_loop1 s0_ m s = some s15) (fun s => [(4, ((tI .i64).is s)), (0, (tS.is s0_))]) (fun s => []) _ digits hs16 ⟨Ent.q rfl, Ent.q rfl, trivial⟩ trivial ?_
      rintro n18 i hm
      try dsimp only at hm
      change W _ _ _ _ _ _ _ [(4, ((tI .i64).is i)), (0, (tS.is s0_))] []
      cases n18 with
      | zero => rw [M.r03_May_loop1.eq_1] at hm; cases hm
      | succ n18 =>
        rw [M.r03_May_loop1.eq_2] at hm
        refine W.seq ?_
        refine W.sr ?_
        refine WL.mv rfl rfl ?_
        refine WL.mv rfl rfl ?_
        refine WL.op rfl (Op1.lenS Try.underlying9 (.tmp rfl)) ?_
        refine WL.op rfl (Op1.ltI (.tmp rfl) (.tmp rfl)) ?_
        refine WL.ns ?_
        refine W.cond (.tmp rfl) (fun hc19 => ?_) (fun hc19 => ?_)
        · have hp20 := of_decide_eq_true hc19
          rw [if_pos hp20] at hm
          refine W.skip ?_
          refine WN.seq ?_
          refine W.seq ?_
          refine W.block ?_
          refine W.sr ?_
          refine WL.mv rfl rfl ?_
          refine WL.mv rfl rfl ?_
          obtain ⟨b1, hv21, hm⟩ := bind_some hm
          refine WL.op rfl (Op1.sidx hv21 Try.underlying9 (.tmp rfl) (.tmp rfl)) ?_
          refine WL.op rfl (Op1.ltI (.tmp rfl) (.int (inR8.2 (by omega)))) ?_
          refine WL.mv rfl rfl ?_
          rcases bcases (decide ((b1.toNat : Int) < (65 : Int))) with hb22 | hb22
          · have hp23 := of_decide_eq_true hb22
            rw [if_pos hp23] at hm
            refine WL.pass rfl rfl rfl rfl hb22 rfl rfl ?_
            refine WL.pass rfl rfl rfl rfl hb22 rfl rfl ?_
            refine WL.pass rfl rfl rfl rfl hb22 rfl rfl ?_
            refine WL.pass rfl rfl rfl rfl hb22 rfl rfl ?_
            refine WL.op rfl (Op1.pickT (.tmp rfl) hb22 .bool) ?_
            refine WL.ns ?_
            refine W.condT (.tmp rfl) ?_
            refine W.sr ?_
            refine WL.op rfl (Op1.assign .bool) ?_
            refine WL.ns ?_
            have hr24 := Option.some.inj hm
            clear hm
            subst hr24
            have hm := hk17
            try dsimp only at hm
            cases hm
            exact W.ret1 () rfl (.tmp rfl) trivial
          · have hp23 := of_decide_eq_false hb22
            rw [if_neg hp23] at hm
            refine WL.run rfl rfl rfl rfl hb22 rfl rfl (Op1.move (.tmp rfl)) ?_
            refine WL.run rfl rfl rfl rfl hb22 rfl rfl (Op1.move (.tmp rfl)) ?_
            obtain ⟨b2, hv25, hm⟩ := bind_some hm
            refine WL.run rfl rfl rfl rfl hb22 rfl rfl (Op1.sidx hv25 Try.underlying9 (.tmp rfl) (.tmp rfl)) ?_
            refine WL.run rfl rfl rfl rfl hb22 rfl rfl (Op1.gtI (.tmp rfl) (.int (inR8.2 (by omega)))) ?_
            refine WL.op rfl (Op1.pickF (.tmp rfl) hb22 (.tmp rfl)) ?_
            refine WL.ns ?_
            refine W.cond (.tmp rfl) (fun hc26 => ?_) (fun hc26 => ?_)
            · have hp27 := of_decide_eq_true hc26
              rw [if_pos hp27] at hm
              refine W.sr ?_
              refine WL.op rfl (Op1.assign .bool) ?_
              refine WL.ns ?_
              have hr28 := Option.some.inj hm
              clear hm
              subst hr28
              have hm := hk17
              try dsimp only at hm
              cases hm
              exact W.ret1 () rfl (.tmp rfl) trivial
            · have hp27 := of_decide_eq_false hc26
              rw [if_neg hp27] at hm
              refine W.skip ?_
              refine WN.block ?_
              refine WN.seq ?_
              refine W.region ?_
              refine WL.mv rfl rfl ?_
              refine WL.lenS (s := 0) (.tmp rfl) fun hl29 => ?_
              refine WL.op rfl (Op1.addI1 (.tmp rfl) (.int (inR64.2 (by omega))) hp20 hl29) ?_
              refine WL.gv rfl rfl ?_
              refine WL.nil ?_
              exact WN.again n18 (i + 1) (Nat.lt_succ_self n18) hm ⟨Ent.q rfl, Ent.q rfl, trivial⟩ trivial
        · have hp20 := of_decide_eq_false hc19
          rw [if_neg hp20] at hm
          refine W.exit rfl ?_
          have hr30 := Option.some.inj hm
          clear hm
          subst hr30
          have hm := hk17
          try dsimp only at hm
          refine WN.seq ?_
          refine W.sr ?_
          refine WL.op rfl (Op1.assign .bool) ?_
          refine WL.ns ?_
          cases hm
          exact W.ret1 () rfl (.tmp rfl) trivial
  · have hm := hs3
    clear hs3
    refine W.region ?_
    refine WL.mv rfl rfl ?_
    refine WL.op rfl (Op1.ltI (.tmp rfl) (.int (inR64.2 (by omega)))) ?_
    refine WL.mv rfl rfl ?_
    rcases bcases (decide (digits < (1 : Int))) with hb5 | hb5
    · have hp6 := of_decide_eq_true hb5
      rw [if_pos hp6] at hm
      refine WL.pass rfl rfl rfl rfl hb5 rfl rfl ?_
      refine WL.pass rfl rfl rfl rfl hb5 rfl rfl ?_
      refine WL.op rfl (Op1.pickT (.tmp rfl) hb5 .bool) ?_
      refine WL.mv rfl rfl ?_
      refine WL.pass rfl rfl rfl rfl rfl rfl rfl ?_
      refine WL.pass rfl rfl rfl rfl rfl rfl rfl ?_
      refine WL.pass rfl rfl rfl rfl rfl rfl rfl ?_
      refine WL.op rfl (Op1.pickT (.tmp rfl) rfl .bool) ?_
      refine WL.mv rfl rfl ?_
      refine WL.pass rfl rfl rfl rfl rfl rfl rfl ?_
      refine WL.pass rfl rfl rfl rfl rfl rfl rfl ?_
      refine WL.pass rfl rfl rfl rfl rfl rfl rfl ?_
      refine WL.pass rfl rfl rfl rfl rfl rfl rfl ?_
      refine WL.pass rfl rfl rfl rfl rfl rfl rfl ?_
      refine WL.op rfl (Op1.pickT (.tmp rfl) rfl .bool) ?_
      refine WL.nil ?_
      exact WN.meet true (Option.some.inj hm) ⟨Ent.q rfl, Ent.q rfl, Ent.q rfl, trivial⟩ trivial
    · have hp6 := of_decide_eq_false hb5
      rw [if_neg hp6] at hm
      refine WL.run rfl rfl rfl rfl hb5 rfl rfl (Op1.move (.tmp rfl)) ?_
      refine WL.run rfl rfl rfl rfl hb5 rfl rfl (Op1.gtI (.tmp rfl) (.int (inR64.2 (by omega)))) ?_
      refine WL.op rfl (Op1.pickF (.tmp rfl) hb5 (.tmp rfl)) ?_
      refine WL.mv rfl rfl ?_
      rcases bcases (decide ((4 : Int) < digits)) with hb7 | hb7
      · have hp8 := of_decide_eq_true hb7
        rw [if_pos hp8] at hm
        refine WL.pass rfl rfl rfl rfl hb7 rfl rfl ?_
        refine WL.pass rfl rfl rfl rfl hb7 rfl rfl ?_
        refine WL.pass rfl rfl rfl rfl hb7 rfl rfl ?_
        refine WL.op rfl (Op1.pickT (.tmp rfl) hb7 .bool) ?_
        refine WL.mv rfl rfl ?_
        refine WL.pass rfl rfl rfl rfl rfl rfl rfl ?_
        refine WL.pass rfl rfl rfl rfl rfl rfl rfl ?_
        refine WL.pass rfl rfl rfl rfl rfl rfl rfl ?_
        refine WL.pass rfl rfl rfl rfl rfl rfl rfl ?_
        refine WL.pass rfl rfl rfl rfl rfl rfl rfl ?_
        refine WL.op rfl (Op1.pickT (.tmp rfl) rfl .bool) ?_
        refine WL.nil ?_
        exact WN.meet true (Option.some.inj hm) ⟨Ent.q rfl, Ent.q rfl, Ent.q rfl, trivial⟩ trivial
      · have hp8 := of_decide_eq_false hb7
        rw [if_neg hp8] at hm
        refine WL.run rfl rfl rfl rfl hb7 rfl rfl (Op1.move (.tmp rfl)) ?_
        obtain ⟨b, hv9, hm⟩ := bind_some hm
        refine WL.run rfl rfl rfl rfl hb7 rfl rfl (Op1.sidx hv9 Try.underlying9 (.tmp rfl) (.int (inR64.2 (by omega)))) ?_
        refine WL.run rfl rfl rfl rfl hb7 rfl rfl (Op1.eqI (.tmp rfl) (.int (inR8.2 (by omega)))) ?_
        refine WL.op rfl (Op1.pickF (.tmp rfl) hb7 (.tmp rfl)) ?_
        refine WL.mv rfl rfl ?_
        rcases bcases (decide ((b.toNat : Int) = (48 : Int))) with hb10 | hb10
        · have hp11 := of_decide_eq_true hb10
          rw [if_pos hp11] at hm
          refine WL.pass rfl rfl rfl rfl hb10 rfl rfl ?_
          refine WL.pass rfl rfl rfl rfl hb10 rfl rfl ?_
          refine WL.pass rfl rfl rfl rfl hb10 rfl rfl ?_
          refine WL.pass rfl rfl rfl rfl hb10 rfl rfl ?_
          refine WL.pass rfl rfl rfl rfl hb10 rfl rfl ?_
          refine WL.op rfl (Op1.pickT (.tmp rfl) hb10 .bool) ?_
          refine WL.nil ?_
          exact WN.meet true (Option.some.inj hm) ⟨Ent.q rfl, Ent.q rfl, Ent.q rfl, trivial⟩ trivial
        · have hp11 := of_decide_eq_false hb10
          rw [if_neg hp11] at hm
          refine WL.run rfl rfl rfl rfl hb10 rfl rfl (Op1.move (.tmp rfl)) ?_
          refine WL.run rfl rfl rfl rfl hb10 rfl rfl (Op1.lenS Try.underlying9 (.tmp rfl)) ?_
          refine WL.run rfl rfl rfl rfl hb10 rfl rfl (Op1.move (.tmp rfl)) ?_
          obtain ⟨v1, hv12, hm⟩ := bind_some hm
          refine WL.run rfl rfl rfl rfl hb10 rfl rfl (Op1.subC hv12 (.tmp rfl) (.tmp rfl)) ?_
          refine WL.run rfl rfl rfl rfl hb10 rfl rfl (Op1.gtI (.tmp rfl) (.int (inR64.2 (by omega)))) ?_
          refine WL.op rfl (Op1.pickF (.tmp rfl) hb10 (.tmp rfl)) ?_
          refine WL.nil ?_
          exact WN.meet (decide ((3 : Int) < v1)) (Option.some.inj hm) ⟨Ent.q rfl, Ent.q rfl, Ent.q rfl, trivial⟩ trivial

theorem r06_alone_spec (n : Nat) (u : api_Unit) (r : Bool) (hm : M.r06_alone n u = some r) : FSpec Try.prog 85 [(tapi_Unit.is u)] (tB.is r) := by
  unfold M.r06_alone at hm
  refine FSpec.of Try.func85 rfl rfl rfl (fun g0 => ?_)
  refine W.sr ?_
  refine WL.op rfl (Op1.box (.tmp rfl)) ?_
  refine WL.op rfl (Op1.assign .bool) ?_
  refine WL.ns ?_
  refine W.seq ?_
  obtain ⟨s1, hs2, hk3⟩ := bind_some hm
  clear hm
  refine W.join (fun s : Bool => s = s1) (fun s => [(28, (tB.is s)), (1, (tapi_Unit.ptr u))]) (fun s => []) ?_ ?_
  · rintro v hj27
    try dsimp only at hj27
    subst hj27
    have hm := hk3
    clear hk3
    try dsimp only at hm
    change W _ _ _ _ _ _ _ [(28, (tB.is v)), (1, (tapi_Unit.ptr u))] []
    refine W.cond (.tmp rfl) (fun hc14 => ?_) (fun hc14 => ?_)
    · have hp15 := hc14
      rw [if_pos hp15] at hm
      refine W.sr ?_
      refine WL.op rfl (Op1.assign .bool) ?_
      refine WL.ns ?_
      cases hm
      exact W.ret1 () rfl (.tmp rfl) trivial
    · have hp15 := ne_of_false hc14
      rw [if_neg hp15] at hm
      refine W.skip ?_
      refine WN.seq ?_
      refine W.seq ?_
      refine W.sr ?_
      refine WL.op rfl (Op1.fieldAddr Try.underlying27 rfl (fun w => ⟨0, Try.sizeOf3 w⟩) fapi_Unit_1 (.tmp rfl)) ?_
      refine WL.op rfl (Op1.load ty3 (.tmp rfl)) ?_
      refine WL.op rfl (Op1.eqI (.tmp rfl) (.int (inR64.2 (by omega)))) ?_
      refine WL.ns ?_
      refine W.cond (.tmp rfl) (fun hc16 => ?_) (fun hc16 => ?_)
      · have hp17 := of_decide_eq_true hc16
        rw [if_pos hp17] at hm
        obtain ⟨s18, hs19, hk20⟩ := bind_some hm
        clear hm
        refine W.join (fun s : Bool => s = s18) (fun s => [(2, (tB.is s))]) (fun s => []) ?_ ?_
        · rintro v1 hj25
          try dsimp only at hj25
          subst hj25
          have hm := hk20
          clear hk20
          try dsimp only at hm
          change W _ _ _ _ _ _ _ [(2, (tB.is v1))] []
          cases hm
          exact W.ret1 () rfl (.tmp rfl) trivial
        · have hm := hs19
          clear hs19
          refine W.region ?_
          refine WL.op rfl (Op1.fieldAddr Try.underlying27 rfl (fun w => ⟨0, Try.sizeOf9 w⟩) fapi_Unit_2 (.tmp rfl)) ?_
          refine WL.op rfl (Op1.load ty9 (.tmp rfl)) ?_
          refine WL.op rfl (Op1.eqS (.tmp rfl) (.str rfl (by decide))) ?_
          refine WL.mv rfl rfl ?_
          rcases bcases (u.Label == ([] : Str)) with hb21 | hb21
          · have hp22 := hb21
            rw [if_pos hp22] at hm
            refine WL.run rfl rfl rfl rfl hb21 rfl rfl (Op1.fieldAddr Try.underlying27 rfl (fun w => ⟨0, Try.sizeOf24 w⟩) fapi_Unit_3 (.tmp rfl)) ?_
            refine WL.run rfl rfl rfl rfl hb21 rfl rfl (Op1.load ty24 (.tmp rfl)) ?_
            refine WL.run rfl rfl rfl rfl hb21 rfl rfl (Op1.lenL Try.underlying24 (.tmp rfl)) ?_
            refine WL.run rfl rfl rfl rfl hb21 rfl rfl (Op1.eqI (.tmp rfl) (.int (inR64.2 (by omega)))) ?_
            refine WL.op rfl (Op1.pickT (.tmp rfl) hb21 (.tmp rfl)) ?_
            refine WL.mv rfl rfl ?_
            rcases bcases (decide ((u.Head.length : Int) = (0 : Int))) with hb23 | hb23
            · have hp24 := of_decide_eq_true hb23
              rw [if_pos hp24] at hm
              refine WL.run rfl rfl rfl rfl hb23 rfl rfl (Op1.fieldAddr Try.underlying27 rfl (fun w => ⟨0, Try.sizeOf24 w⟩) fapi_Unit_4 (.tmp rfl)) ?_
              refine WL.run rfl rfl rfl rfl hb23 rfl rfl (Op1.load ty24 (.tmp rfl)) ?_
              refine WL.run rfl rfl rfl rfl hb23 rfl rfl (Op1.lenL Try.underlying24 (.tmp rfl)) ?_
              refine WL.run rfl rfl rfl rfl hb23 rfl rfl (Op1.eqI (.tmp rfl) (.int (inR64.2 (by omega)))) ?_
              refine WL.op rfl (Op1.pickT (.tmp rfl) hb23 (.tmp rfl)) ?_
              refine WL.gv rfl rfl ?_
              refine WL.nil ?_
              exact WN.meet (decide ((u.Words.length : Int) = (0 : Int))) (Option.some.inj hm) ⟨Ent.q rfl, trivial⟩ trivial
            · have hp24 := of_decide_eq_false hb23
              rw [if_neg hp24] at hm
              refine WL.pass rfl rfl rfl rfl hb23 rfl rfl ?_
              refine WL.pass rfl rfl rfl rfl hb23 rfl rfl ?_
              refine WL.pass rfl rfl rfl rfl hb23 rfl rfl ?_
              refine WL.pass rfl rfl rfl rfl hb23 rfl rfl ?_
              refine WL.op rfl (Op1.pickF (.tmp rfl) hb23 .bool) ?_
              refine WL.gv rfl rfl ?_
              refine WL.nil ?_
              exact WN.meet false (Option.some.inj hm) ⟨Ent.q rfl, trivial⟩ trivial
          · have hp22 := ne_of_false hb21
            rw [if_neg hp22] at hm
            refine WL.pass rfl rfl rfl rfl hb21 rfl rfl ?_
            refine WL.pass rfl rfl rfl rfl hb21 rfl rfl ?_
            refine WL.pass rfl rfl rfl rfl hb21 rfl rfl ?_
            refine WL.pass rfl rfl rfl rfl hb21 rfl rfl ?_
            refine WL.op rfl (Op1.pickF (.tmp rfl) hb21 .bool) ?_
            refine WL.mv rfl rfl ?_
            refine WL.pass rfl rfl rfl rfl rfl rfl rfl ?_
            refine WL.pass rfl rfl rfl rfl rfl rfl rfl ?_
            refine WL.pass rfl rfl rfl rfl rfl rfl rfl ?_
            refine WL.pass rfl rfl rfl rfl rfl rfl rfl ?_
            refine WL.op rfl (Op1.pickF (.tmp rfl) rfl .bool) ?_
            refine WL.gv rfl rfl ?_
            refine WL.nil ?_
            exact WN.meet false (Option.some.inj hm) ⟨Ent.q rfl, trivial⟩ trivial
      · have hp17 := of_decide_eq_false hc16
        rw [if_neg hp17] at hm
        refine W.skip ?_
        refine WN.seq ?_
        refine W.sr ?_
        refine WL.op rfl (Op1.fieldAddr Try.underlying27 rfl (fun w => ⟨0, Try.sizeOf9 w⟩) fapi_Unit_2 (.tmp rfl)) ?_
        refine WL.op rfl (Op1.load ty9 (.tmp rfl)) ?_
        obtain ⟨may, hv26, hm⟩ := bind_some hm
        refine WL.op rfl (Op1.call Try.call76 (r03_May_spec _ _ _ hv26) ⟨(.tmp rfl), trivial⟩) ?_
        refine WL.gv rfl rfl ?_
        refine WL.ns ?_
        cases hm
        exact W.ret1 () rfl (.tmp rfl) trivial
  · have hm := hs2
    clear hs2
    refine W.region ?_
    refine WL.op rfl (Op1.fieldAddr Try.underlying27 rfl (fun w => ⟨0, Try.sizeOf3 w⟩) fapi_Unit_1 (.tmp rfl)) ?_
    refine WL.op rfl (Op1.load ty3 (.tmp rfl)) ?_
    refine WL.op rfl (Op1.ltI (.tmp rfl) (.int (inR64.2 (by omega)))) ?_
    refine WL.mv rfl rfl ?_
    rcases bcases (decide (u.Kind < (0 : Int))) with hb4 | hb4
    · have hp5 := of_decide_eq_true hb4
      rw [if_pos hp5] at hm
      refine WL.pass rfl rfl rfl rfl hb4 rfl rfl ?_
      refine WL.pass rfl rfl rfl rfl hb4 rfl rfl ?_
      refine WL.pass rfl rfl rfl rfl hb4 rfl rfl ?_
      refine WL.op rfl (Op1.pickT (.tmp rfl) hb4 .bool) ?_
      refine WL.mv rfl rfl ?_
      refine WL.pass rfl rfl rfl rfl rfl rfl rfl ?_
      refine WL.pass rfl rfl rfl rfl rfl rfl rfl ?_
      refine WL.pass rfl rfl rfl rfl rfl rfl rfl ?_
      refine WL.pass rfl rfl rfl rfl rfl rfl rfl ?_
      refine WL.op rfl (Op1.pickT (.tmp rfl) rfl .bool) ?_
      refine WL.mv rfl rfl ?_
      refine WL.pass rfl rfl rfl rfl rfl rfl rfl ?_
      refine WL.pass rfl rfl rfl rfl rfl rfl rfl ?_
      refine WL.pass rfl rfl rfl rfl rfl rfl rfl ?_
      refine WL.pass rfl rfl rfl rfl rfl rfl rfl ?_
      refine WL.op rfl (Op1.pickT (.tmp rfl) rfl .bool) ?_
      refine WL.mv rfl rfl ?_
      refine WL.pass rfl rfl rfl rfl rfl rfl rfl ?_
      refine WL.pass rfl rfl rfl rfl rfl rfl rfl ?_
      refine WL.pass rfl rfl rfl rfl rfl rfl rfl ?_
      refine WL.pass rfl rfl rfl rfl rfl rfl rfl ?_
      refine WL.op rfl (Op1.pickT (.tmp rfl) rfl .bool) ?_
      refine WL.nil ?_
      exact WN.meet true (Option.some.inj hm) ⟨Ent.q rfl, Ent.q rfl, trivial⟩ trivial
    · have hp5 := of_decide_eq_false hb4
      rw [if_neg hp5] at hm
      refine WL.run rfl rfl rfl rfl hb4 rfl rfl (Op1.fieldAddr Try.underlying27 rfl (fun w => ⟨0, Try.sizeOf3 w⟩) fapi_Unit_1 (.tmp rfl)) ?_
      refine WL.run rfl rfl rfl rfl hb4 rfl rfl (Op1.load ty3 (.tmp rfl)) ?_
      refine WL.run rfl rfl rfl rfl hb4 rfl rfl (Op1.gtI (.tmp rfl) (.int (inR64.2 (by omega)))) ?_
      refine WL.op rfl (Op1.pickF (.tmp rfl) hb4 (.tmp rfl)) ?_
      refine WL.mv rfl rfl ?_
      rcases bcases (decide ((7 : Int) < u.Kind)) with hb6 | hb6
      · have hp7 := of_decide_eq_true hb6
        rw [if_pos hp7] at hm
        refine WL.pass rfl rfl rfl rfl hb6 rfl rfl ?_
        refine WL.pass rfl rfl rfl rfl hb6 rfl rfl ?_
        refine WL.pass rfl rfl rfl rfl hb6 rfl rfl ?_
        refine WL.pass rfl rfl rfl rfl hb6 rfl rfl ?_
        refine WL.op rfl (Op1.pickT (.tmp rfl) hb6 .bool) ?_
        refine WL.mv rfl rfl ?_
        refine WL.pass rfl rfl rfl rfl rfl rfl rfl ?_
        refine WL.pass rfl rfl rfl rfl rfl rfl rfl ?_
        refine WL.pass rfl rfl rfl rfl rfl rfl rfl ?_
        refine WL.pass rfl rfl rfl rfl rfl rfl rfl ?_
        refine WL.op rfl (Op1.pickT (.tmp rfl) rfl .bool) ?_
        refine WL.mv rfl rfl ?_
        refine WL.pass rfl rfl rfl rfl rfl rfl rfl ?_
        refine WL.pass rfl rfl rfl rfl rfl rfl rfl ?_
        refine WL.pass rfl rfl rfl rfl rfl rfl rfl ?_
        refine WL.pass rfl rfl rfl rfl rfl rfl rfl ?_
        refine WL.op rfl (Op1.pickT (.tmp rfl) rfl .bool) ?_
        refine WL.nil ?_
        exact WN.meet true (Option.some.inj hm) ⟨Ent.q rfl, Ent.q rfl, trivial⟩ trivial
      · have hp7 := of_decide_eq_false hb6
        rw [if_neg hp7] at hm
        refine WL.run rfl rfl rfl rfl hb6 rfl rfl (Op1.fieldAddr Try.underlying27 rfl (fun w => ⟨0, Try.sizeOf25 w⟩) fapi_Unit_5 (.tmp rfl)) ?_
        refine WL.run rfl rfl rfl rfl hb6 rfl rfl (Op1.load ty25 (.tmp rfl)) ?_
        refine WL.run rfl rfl rfl rfl hb6 rfl rfl (Op1.lenL Try.underlying25 (.tmp rfl)) ?_
        refine WL.run rfl rfl rfl rfl hb6 rfl rfl (Op1.gtI (.tmp rfl) (.int (inR64.2 (by omega)))) ?_
        refine WL.op rfl (Op1.pickF (.tmp rfl) hb6 (.tmp rfl)) ?_
        refine WL.mv rfl rfl ?_
        rcases bcases (decide ((64 : Int) < (u.Kids.length : Int))) with hb8 | hb8
        · have hp9 := of_decide_eq_true hb8
          rw [if_pos hp9] at hm
          refine WL.pass rfl rfl rfl rfl hb8 rfl rfl ?_
          refine WL.pass rfl rfl rfl rfl hb8 rfl rfl ?_
          refine WL.pass rfl rfl rfl rfl hb8 rfl rfl ?_
          refine WL.pass rfl rfl rfl rfl hb8 rfl rfl ?_
          refine WL.op rfl (Op1.pickT (.tmp rfl) hb8 .bool) ?_
          refine WL.mv rfl rfl ?_
          refine WL.pass rfl rfl rfl rfl rfl rfl rfl ?_
          refine WL.pass rfl rfl rfl rfl rfl rfl rfl ?_
          refine WL.pass rfl rfl rfl rfl rfl rfl rfl ?_
          refine WL.pass rfl rfl rfl rfl rfl rfl rfl ?_
          refine WL.op rfl (Op1.pickT (.tmp rfl) rfl .bool) ?_
          refine WL.nil ?_
          exact WN.meet true (Option.some.inj hm) ⟨Ent.q rfl, Ent.q rfl, trivial⟩ trivial
        · have hp9 := of_decide_eq_false hb8
          rw [if_neg hp9] at hm
          refine WL.run rfl rfl rfl rfl hb8 rfl rfl (Op1.fieldAddr Try.underlying27 rfl (fun w => ⟨0, Try.sizeOf24 w⟩) fapi_Unit_3 (.tmp rfl)) ?_
          refine WL.run rfl rfl rfl rfl hb8 rfl rfl (Op1.load ty24 (.tmp rfl)) ?_
          obtain ⟨row, hv10, hm⟩ := bind_some hm
          refine WL.run rfl rfl rfl rfl hb8 rfl rfl (Op1.call Try.call94 (r06_row_spec _ _ _ hv10) ⟨(.tmp rfl), trivial⟩) ?_
          refine WL.run rfl rfl rfl rfl hb8 rfl rfl (Op1.notB (.tmp rfl)) ?_
          refine WL.op rfl (Op1.pickF (.tmp rfl) hb8 (.tmp rfl)) ?_
          refine WL.mv rfl rfl ?_
          rcases bcases (!row) with hb11 | hb11
          · have hp12 := not_pos hb11
            rw [if_pos hp12] at hm
            refine WL.pass rfl rfl rfl rfl hb11 rfl rfl ?_
            refine WL.pass rfl rfl rfl rfl hb11 rfl rfl ?_
            refine WL.pass rfl rfl rfl rfl hb11 rfl rfl ?_
            refine WL.pass rfl rfl rfl rfl hb11 rfl rfl ?_
            refine WL.op rfl (Op1.pickT (.tmp rfl) hb11 .bool) ?_
            refine WL.nil ?_
            exact WN.meet true (Option.some.inj hm) ⟨Ent.q rfl, Ent.q rfl, trivial⟩ trivial
          · have hp12 := not_neg hb11
            rw [if_neg hp12] at hm
            refine WL.run rfl rfl rfl rfl hb11 rfl rfl (Op1.fieldAddr Try.underlying27 rfl (fun w => ⟨0, Try.sizeOf24 w⟩) fapi_Unit_4 (.tmp rfl)) ?_
            refine WL.run rfl rfl rfl rfl hb11 rfl rfl (Op1.load ty24 (.tmp rfl)) ?_
            obtain ⟨row1, hv13, hm⟩ := bind_some hm
            refine WL.run rfl rfl rfl rfl hb11 rfl rfl (Op1.call Try.call94 (r06_row_spec _ _ _ hv13) ⟨(.tmp rfl), trivial⟩) ?_
            refine WL.run rfl rfl rfl rfl hb11 rfl rfl (Op1.notB (.tmp rfl)) ?_
            refine WL.op rfl (Op1.pickF (.tmp rfl) hb11 (.tmp rfl)) ?_
            refine WL.nil ?_
            exact WN.meet (!row1) (Option.some.inj hm) ⟨Ent.q rfl, Ent.q rfl, trivial⟩ trivial

theorem r06_Nests_spec (parent : Int) (kind : Int) (r : Bool) (hm : M.r06_Nests parent kind = some r) : FSpec Try.prog 86 [((tI .i64).is parent), ((tI .i64).is kind)] (tB.is r) := by
  unfold M.r06_Nests at hm
  refine FSpec.of Try.func86 rfl rfl rfl (fun g0 => ?_)
  refine W.sr ?_
  refine WL.op rfl (Op1.assign .bool) ?_
  refine WL.ns ?_
  refine W.seq ?_
  refine W.sr ?_
  refine WL.mv rfl rfl ?_
  refine WL.ns ?_
  refine W.block ?_
  refine W.sr ?_
  refine WL.op rfl (Op1.eqI (.tmp rfl) (.int (inR64.2 (by omega)))) ?_
  refine WL.gv rfl rfl ?_
  refine WL.ns ?_
  refine W.cond (.tmp rfl) (fun hc1 => ?_) (fun hc1 => ?_)
  · have hp2 := of_decide_eq_true hc1
    rw [if_pos hp2] at hm
    refine W.sr ?_
    refine WL.mv rfl rfl ?_
    refine WL.op rfl (Op1.eqI (.tmp rfl) (.int (inR64.2 (by omega)))) ?_
    refine WL.mv rfl rfl ?_
    rcases bcases (decide (kind = (1 : Int))) with hb3 | hb3
    · have hp4 := of_decide_eq_true hb3
      rw [if_pos hp4] at hm
      refine WL.pass rfl rfl rfl rfl hb3 rfl rfl ?_
      refine WL.pass rfl rfl rfl rfl hb3 rfl rfl ?_
      refine WL.op rfl (Op1.pickT (.tmp rfl) hb3 .bool) ?_
      refine WL.gv rfl rfl ?_
      refine WL.ns ?_
      cases hm
      exact W.ret1 () rfl (.tmp rfl) trivial
    · have hp4 := of_decide_eq_false hb3
      rw [if_neg hp4] at hm
      refine WL.run rfl rfl rfl rfl hb3 rfl rfl (Op1.move (.tmp rfl)) ?_
      refine WL.run rfl rfl rfl rfl hb3 rfl rfl (Op1.eqI (.tmp rfl) (.int (inR64.2 (by omega)))) ?_
      refine WL.op rfl (Op1.pickF (.tmp rfl) hb3 (.tmp rfl)) ?_
      refine WL.gv rfl rfl ?_
      refine WL.ns ?_
      cases hm
      exact W.ret1 () rfl (.tmp rfl) trivial
  · have hp2 := of_decide_eq_false hc1
    rw [if_neg hp2] at hm
    refine W.sr ?_
    refine WL.op rfl (Op1.eqI (.tmp rfl) (.int (inR64.2 (by omega)))) ?_
    refine WL.gv rfl rfl ?_
    refine WL.ns ?_
    refine W.cond (.tmp rfl) (fun hc5 => ?_) (fun hc5 => ?_)
    · have hp6 := of_decide_eq_true hc5
      rw [if_pos hp6] at hm
      refine W.sr ?_
      refine WL.mv rfl rfl ?_
      refine WL.op rfl (Op1.eqI (.tmp rfl) (.int (inR64.2 (by omega)))) ?_
      refine WL.gv rfl rfl ?_
      refine WL.ns ?_
      cases hm
      exact W.ret1 () rfl (.tmp rfl) trivial
    · have hp6 := of_decide_eq_false hc5
      rw [if_neg hp6] at hm
      obtain ⟨s7, hs8, hk9⟩ := bind_some hm
      clear hm
      refine W.join (fun s : Bool => s = s7) (fun s => [(18, (tB.is s)), (1, ((tI .i64).is kind)), (5, ((tI .i64).is parent))]) (fun s => []) ?_ ?_
      · rintro v hj22
        try dsimp only at hj22
        subst hj22
        have hm := hk9
        clear hk9
        try dsimp only at hm
        change W _ _ _ _ _ _ _ [(18, (tB.is v)), (1, ((tI .i64).is kind)), (5, ((tI .i64).is parent))] []
        refine W.cond (.tmp rfl) (fun hc12 => ?_) (fun hc12 => ?_)
        · have hp13 := hc12
          rw [if_pos hp13] at hm
          refine W.sr ?_
          refine WL.mv rfl rfl ?_
          refine WL.op rfl (Op1.eqI (.tmp rfl) (.int (inR64.2 (by omega)))) ?_
          refine WL.mv rfl rfl ?_
          rcases bcases (decide (kind = (3 : Int))) with hb14 | hb14
          · have hp15 := of_decide_eq_true hb14
            rw [if_pos hp15] at hm
            refine WL.pass rfl rfl rfl rfl hb14 rfl rfl ?_
            refine WL.pass rfl rfl rfl rfl hb14 rfl rfl ?_
            refine WL.op rfl (Op1.pickT (.tmp rfl) hb14 .bool) ?_
            refine WL.mv rfl rfl ?_
            refine WL.pass rfl rfl rfl rfl rfl rfl rfl ?_
            refine WL.pass rfl rfl rfl rfl rfl rfl rfl ?_
            refine WL.op rfl (Op1.pickT (.tmp rfl) rfl .bool) ?_
            refine WL.gv rfl rfl ?_
            refine WL.ns ?_
            cases hm
            exact W.ret1 () rfl (.tmp rfl) trivial
          · have hp15 := of_decide_eq_false hb14
            rw [if_neg hp15] at hm
            refine WL.run rfl rfl rfl rfl hb14 rfl rfl (Op1.move (.tmp rfl)) ?_
            refine WL.run rfl rfl rfl rfl hb14 rfl rfl (Op1.eqI (.tmp rfl) (.int (inR64.2 (by omega)))) ?_
            refine WL.op rfl (Op1.pickF (.tmp rfl) hb14 (.tmp rfl)) ?_
            refine WL.mv rfl rfl ?_
            rcases bcases (decide (kind = (4 : Int))) with hb16 | hb16
            · have hp17 := of_decide_eq_true hb16
              rw [if_pos hp17] at hm
              refine WL.pass rfl rfl rfl rfl hb16 rfl rfl ?_
              refine WL.pass rfl rfl rfl rfl hb16 rfl rfl ?_
              refine WL.op rfl (Op1.pickT (.tmp rfl) hb16 .bool) ?_
              refine WL.gv rfl rfl ?_
              refine WL.ns ?_
              cases hm
              exact W.ret1 () rfl (.tmp rfl) trivial
            · have hp17 := of_decide_eq_false hb16
              rw [if_neg hp17] at hm
              refine WL.run rfl rfl rfl rfl hb16 rfl rfl (Op1.move (.tmp rfl)) ?_
              refine WL.run rfl rfl rfl rfl hb16 rfl rfl (Op1.eqI (.tmp rfl) (.int (inR64.2 (by omega)))) ?_
              refine WL.op rfl (Op1.pickF (.tmp rfl) hb16 (.tmp rfl)) ?_
              refine WL.gv rfl rfl ?_
              refine WL.ns ?_
              cases hm
              exact W.ret1 () rfl (.tmp rfl) trivial
        · have hp13 := ne_of_false hc12
          rw [if_neg hp13] at hm
          refine W.sr ?_
          refine WL.op rfl (Op1.eqI (.tmp rfl) (.int (inR64.2 (by omega)))) ?_
          refine WL.gv rfl rfl ?_
          refine WL.ns ?_
          refine W.cond (.tmp rfl) (fun hc18 => ?_) (fun hc18 => ?_)
          · have hp19 := of_decide_eq_true hc18
            rw [if_pos hp19] at hm
            refine W.sr ?_
            refine WL.mv rfl rfl ?_
            refine WL.op rfl (Op1.eqI (.tmp rfl) (.int (inR64.2 (by omega)))) ?_
            refine WL.gv rfl rfl ?_
            refine WL.ns ?_
            cases hm
            exact W.ret1 () rfl (.tmp rfl) trivial
          · have hp19 := of_decide_eq_false hc18
            rw [if_neg hp19] at hm
            refine W.sr ?_
            refine WL.op rfl (Op1.eqI (.tmp rfl) (.int (inR64.2 (by omega)))) ?_
            refine WL.gv rfl rfl ?_
            refine WL.ns ?_
            refine W.cond (.tmp rfl) (fun hc20 => ?_) (fun hc20 => ?_)
            · have hp21 := of_decide_eq_true hc20
              rw [if_pos hp21] at hm
              refine W.sr ?_
              refine WL.mv rfl rfl ?_
              refine WL.op rfl (Op1.eqI (.tmp rfl) (.int (inR64.2 (by omega)))) ?_
              refine WL.gv rfl rfl ?_
              refine WL.ns ?_
              cases hm
              exact W.ret1 () rfl (.tmp rfl) trivial
            · have hp21 := of_decide_eq_false hc20
              rw [if_neg hp21] at hm
              refine W.skip ?_
              refine WN.block ?_
              refine WN.seq ?_
              refine W.sr ?_
              refine WL.op rfl (Op1.assign .bool) ?_
              refine WL.ns ?_
              cases hm
              exact W.ret1 () rfl (.tmp rfl) trivial
      · have hm := hs8
        clear hs8
        refine W.sr ?_
        refine WL.op rfl (Op1.eqI (.tmp rfl) (.int (inR64.2 (by omega)))) ?_
        refine WL.gv rfl rfl ?_
        refine WL.ns ?_
        refine W.cond (.tmp rfl) (fun hc10 => ?_) (fun hc10 => ?_)
        · have hp11 := of_decide_eq_true hc10
          rw [if_pos hp11] at hm
          refine W.skip ?_
          exact WN.meet (decide (parent = (2 : Int))) (Option.some.inj hm) ⟨Ent.q rfl, Ent.q rfl, Ent.q rfl, trivial⟩ trivial
        · have hp11 := of_decide_eq_false hc10
          rw [if_neg hp11] at hm
          refine W.region ?_
          refine WL.op rfl (Op1.eqI (.tmp rfl) (.int (inR64.2 (by omega)))) ?_
          refine WL.gv rfl rfl ?_
          refine WL.nil ?_
          exact WN.meet (decide (parent = (3 : Int))) (Option.some.inj hm) ⟨Ent.q rfl, Ent.q rfl, Ent.q rfl, trivial⟩ trivial

theorem r06_Right_spec : ∀ (n : Nat) (u : api_Unit) (r : Bool), M.r06_Right n u = some r → FSpec Try.prog 71 [(tapi_Unit.is u)] (tB.is r) := by
  intro n
  induction n with
  | zero => intro u r hm; cases hm
  | succ n ih =>
    intro u r hm
    rw [M.r06_Right.eq_2] at hm
    refine FSpec.of Try.func71 rfl rfl rfl (fun g0 => ?_)
    refine W.sr ?_
    refine WL.op rfl (Op1.box (.tmp rfl)) ?_
    refine WL.op rfl (Op1.assign .bool) ?_
    refine WL.ns ?_
    refine W.seq ?_
    refine W.sr ?_
    refine WL.op rfl (Op1.load ty27 (.tmp rfl)) ?_
    obtain ⟨alone, hv1, hm⟩ := bind_some hm
    refine WL.op rfl (Op1.call Try.call85 (r06_alone_spec _ _ _ hv1) ⟨(.tmp rfl), trivial⟩) ?_
    refine WL.op rfl (Op1.notB (.tmp rfl)) ?_
    refine WL.ns ?_
    refine W.cond (.tmp rfl) (fun hc2 => ?_) (fun hc2 => ?_)
    · have hp3 := not_pos hc2
      rw [if_pos hp3] at hm
      refine W.sr ?_
      refine WL.op rfl (Op1.assign .bool) ?_
      refine WL.ns ?_
      cases hm
      exact W.ret1 () rfl (.tmp rfl) trivial
    · have hp3 := not_neg hc2
      rw [if_neg hp3] at hm
      refine W.skip ?_
      refine WN.seq ?_
      refine W.seq ?_
      refine W.sr ?_
      refine WL.op rfl (Op1.assign (.int (inR64.2 (by omega)))) ?_
      refine WL.ns ?_
      refine W.block ?_
      obtain ⟨s4, hs5, hk6⟩ := bind_some hm
      clear hm
      refine W.loop (fun m (s : Int) => M.r06_Right_loop1 u (M.r06_Right n) m s = some s4) (fun s => [(3, ((tI .i64).is s)), (1, (tapi_Unit.ptr u))]) (fun s => []) _ (0 : Int) hs5 ⟨Ent.q rfl, Ent.q rfl, trivial⟩ trivial ?_
      rintro n7 i hm
      try dsimp only at hm
      change W _ _ _ _ _ _ _ [(3, ((tI .i64).is i)), (1, (tapi_Unit.ptr u))] []
      cases n7 with
      | zero => rw [M.r06_Right_loop1.eq_1] at hm; cases hm
      | succ n7 =>
        rw [M.r06_Right_loop1.eq_2] at hm
        refine W.seq ?_
        refine W.sr ?_
        refine WL.mv rfl rfl ?_
        refine WL.op rfl (Op1.fieldAddr Try.underlying27 rfl (fun w => ⟨0, Try.sizeOf25 w⟩) fapi_Unit_5 (.tmp rfl)) ?_
        refine WL.op rfl (Op1.load ty25 (.tmp rfl)) ?_
        refine WL.op rfl (Op1.lenL Try.underlying25 (.tmp rfl)) ?_
        refine WL.op rfl (Op1.ltI (.tmp rfl) (.tmp rfl)) ?_
        refine WL.ns ?_
        refine W.cond (.tmp rfl) (fun hc8 => ?_) (fun hc8 => ?_)
        · have hp9 := of_decide_eq_true hc8
          rw [if_pos hp9] at hm
          refine W.skip ?_
          refine WN.seq ?_
          refine W.seq ?_
          refine W.block ?_
          refine W.seq ?_
          refine W.seq ?_
          obtain ⟨v, hv10, hm⟩ := bind_some hm
          obtain ⟨nests, hv11, hm⟩ := bind_some hm
          rcases bcases (!nests) with hb12 | hb12
          · have hp13 := not_pos hb12
            rw [if_pos hp13] at hm
            refine W.draw [.c ((tI .i64).ptr u.Kind), .c ((tI .i64).is u.Kind), .c ((tL tapi_Unit).ptr u.Kids), .c ((tL tapi_Unit).is u.Kids), .c ((tI .i64).is i), .c (tapi_Unit.ptr v), .c ((tI .i64).ptr v.Kind), .c ((tI .i64).is v.Kind), .c (tB.is nests), .c (tB.is (!nests)), .c (tB.is (!nests)), .c (Asn.eq undef), .c (Asn.eq undef), .c (Asn.eq undef), .c (Asn.eq undef), .c (Asn.eq undef), .c (Asn.eq undef), .c (Asn.eq undef), .c (tB.is true)] [([], [1]), ([0], []), ([], [1]), ([2], []), ([], [3]), ([3, 4], []), ([5], []), ([6], []), ([1, 7], []), ([8], []), ([9], []), ([10], [1]), ([10, 11], []), ([10], [3]), ([10, 12, 13], []), ([10, 14], []), ([10, 15], []), ([10, 16], []), ([10, 17], [])] Try.mixed rfl rfl rfl rfl ⟨.inr (Op1.fieldAddr Try.underlying27 rfl (fun w => ⟨0, Try.sizeOf3 w⟩) fapi_Unit_1 (.tmp rfl)), .inr (Op1.load ty3 (.tmp rfl)), .inr (Op1.fieldAddr Try.underlying27 rfl (fun w => ⟨0, Try.sizeOf25 w⟩) fapi_Unit_5 (.tmp rfl)), .inr (Op1.load ty25 (.tmp rfl)), .inr (Op1.move (.tmp rfl)), .inr (Op1.idx hv10 Try.underlying25 Try.sizeOf27 (.tmp rfl) (.tmp rfl)), .inr (Op1.fieldAddr Try.underlying27 rfl (fun w => ⟨0, Try.sizeOf3 w⟩) fapi_Unit_1 (.tmp rfl)), .inr (Op1.load ty3 (.tmp rfl)), .inr (Op1.call Try.call86 (r06_Nests_spec _ _ _ hv11) ⟨(.tmp rfl), (.tmp rfl), trivial⟩), .inr (Op1.notB (.tmp rfl)), .inr (Op1.move (.tmp rfl)), .inr ⟨_, _, _, rfl, rfl, .inl ⟨rfl, .inr ⟨hb12, rfl⟩⟩⟩, .inr ⟨_, _, _, rfl, rfl, .inl ⟨rfl, .inr ⟨hb12, rfl⟩⟩⟩, .inr ⟨_, _, _, rfl, rfl, .inl ⟨rfl, .inr ⟨hb12, rfl⟩⟩⟩, .inr ⟨_, _, _, rfl, rfl, .inl ⟨rfl, .inr ⟨hb12, rfl⟩⟩⟩, .inr ⟨_, _, _, rfl, rfl, .inl ⟨rfl, .inr ⟨hb12, rfl⟩⟩⟩, .inr ⟨_, _, _, rfl, rfl, .inl ⟨rfl, .inr ⟨hb12, rfl⟩⟩⟩, .inr ⟨_, _, _, rfl, rfl, .inl ⟨rfl, .inr ⟨hb12, rfl⟩⟩⟩, .inr (Op1.pickT (.tmp rfl) hb12 .bool), trivial⟩ ?_
            refine WN.seq ?_
            refine W.condT (.tmp rfl) ?_
            refine W.sr ?_
            refine WL.op rfl (Op1.assign .bool) ?_
            refine WL.ns ?_
            have hr14 := Option.some.inj hm
            clear hm
            subst hr14
            have hm := hk6
            try dsimp only at hm
            cases hm
            exact W.ret1 () rfl (.tmp rfl) trivial
          · have hp13 := not_neg hb12
            rw [if_neg hp13] at hm
            obtain ⟨v1, hv15, hm⟩ := bind_some hm
            obtain ⟨right, hv16, hm⟩ := bind_some hm
            refine W.draw [.c ((tI .i64).ptr u.Kind), .c ((tI .i64).is u.Kind), .c ((tL tapi_Unit).ptr u.Kids), .c ((tL tapi_Unit).is u.Kids), .c ((tI .i64).is i), .c (tapi_Unit.ptr v), .c ((tI .i64).ptr v.Kind), .c ((tI .i64).is v.Kind), .c (tB.is nests), .c (tB.is (!nests)), .c (tB.is (!nests)), .c ((tL tapi_Unit).ptr u.Kids), .c ((tL tapi_Unit).is u.Kids), .c ((tI .i64).is i), .c (tapi_Unit.ptr v1), .c (tapi_Unit.is v1), .c (tB.is right), .c (tB.is (!right)), .c (tB.is (!right))] [([], [1]), ([0], []), ([], [1]), ([2], []), ([], [3]), ([3, 4], []), ([5], []), ([6], []), ([1, 7], []), ([8], []), ([9], []), ([10], [1]), ([10, 11], []), ([10], [3]), ([10, 12, 13], []), ([10, 14], []), ([10, 15], []), ([10, 16], []), ([10, 17], [])] Try.mixed rfl rfl rfl rfl ⟨.inr (Op1.fieldAddr Try.underlying27 rfl (fun w => ⟨0, Try.sizeOf3 w⟩) fapi_Unit_1 (.tmp rfl)), .inr (Op1.load ty3 (.tmp rfl)), .inr (Op1.fieldAddr Try.underlying27 rfl (fun w => ⟨0, Try.sizeOf25 w⟩) fapi_Unit_5 (.tmp rfl)), .inr (Op1.load ty25 (.tmp rfl)), .inr (Op1.move (.tmp rfl)), .inr (Op1.idx hv10 Try.underlying25 Try.sizeOf27 (.tmp rfl) (.tmp rfl)), .inr (Op1.fieldAddr Try.underlying27 rfl (fun w => ⟨0, Try.sizeOf3 w⟩) fapi_Unit_1 (.tmp rfl)), .inr (Op1.load ty3 (.tmp rfl)), .inr (Op1.call Try.call86 (r06_Nests_spec _ _ _ hv11) ⟨(.tmp rfl), (.tmp rfl), trivial⟩), .inr (Op1.notB (.tmp rfl)), .inr (Op1.move (.tmp rfl)), .inr ⟨_, _, _, rfl, rfl, .inl ⟨rfl, .inl ⟨hb12, Op1.fieldAddr Try.underlying27 rfl (fun w => ⟨0, Try.sizeOf25 w⟩) fapi_Unit_5 (.tmp rfl)⟩⟩⟩, .inr ⟨_, _, _, rfl, rfl, .inl ⟨rfl, .inl ⟨hb12, Op1.load ty25 (.tmp rfl)⟩⟩⟩, .inr ⟨_, _, _, rfl, rfl, .inl ⟨rfl, .inl ⟨hb12, Op1.move (.tmp rfl)⟩⟩⟩, .inr ⟨_, _, _, rfl, rfl, .inl ⟨rfl, .inl ⟨hb12, Op1.idx hv15 Try.underlying25 Try.sizeOf27 (.tmp rfl) (.tmp rfl)⟩⟩⟩, .inr ⟨_, _, _, rfl, rfl, .inl ⟨rfl, .inl ⟨hb12, Op1.load ty27 (.tmp rfl)⟩⟩⟩, .inr ⟨_, _, _, rfl, rfl, .inl ⟨rfl, .inl ⟨hb12, Op1.call Try.call71 (ih _ _ hv16) ⟨(.tmp rfl), trivial⟩⟩⟩⟩, .inr ⟨_, _, _, rfl, rfl, .inl ⟨rfl, .inl ⟨hb12, Op1.notB (.tmp rfl)⟩⟩⟩, .inr (Op1.pickF (.tmp rfl) hb12 (.tmp rfl)), trivial⟩ ?_
            refine WN.seq ?_
            refine W.cond (.tmp rfl) (fun hc17 => ?_) (fun hc17 => ?_)
            · have hp18 := not_pos hc17
              rw [if_pos hp18] at hm
              refine W.sr ?_
              refine WL.op rfl (Op1.assign .bool) ?_
              refine WL.ns ?_
              have hr19 := Option.some.inj hm
              clear hm
              subst hr19
              have hm := hk6
              try dsimp only at hm
              cases hm
              exact W.ret1 () rfl (.tmp rfl) trivial
            · have hp18 := not_neg hc17
              rw [if_neg hp18] at hm
              refine W.skip ?_
              refine WN.seq ?_
              refine W.sr ?_
              refine WL.op rfl (Op1.assign (.int (inR64.2 (by omega)))) ?_
              refine WL.ns ?_
              refine W.block ?_
              obtain ⟨s20, hs21, hk22⟩ := bind_some hm
              clear hm
              refine W.loop (fun m (s : Int) => M.r06_Right_loop2 u i m s = some s20) (fun s => [(4, ((tI .i64).is s)), (1, (tapi_Unit.ptr u)), (3, ((tI .i64).is i))]) (fun s => []) _ (0 : Int) hs21 ⟨Ent.q rfl, Ent.q rfl, Ent.q rfl, trivial⟩ trivial ?_
              rintro n23 k hm
              try dsimp only at hm
              change W _ _ _ _ _ _ _ [(4, ((tI .i64).is k)), (1, (tapi_Unit.ptr u)), (3, ((tI .i64).is i))] []
              cases n23 with
              | zero => rw [M.r06_Right_loop2.eq_1] at hm; cases hm
              | succ n23 =>
                rw [M.r06_Right_loop2.eq_2] at hm
                refine W.seq ?_
                refine W.sr ?_
                refine WL.mv rfl rfl ?_
                refine WL.mv rfl rfl ?_
                refine WL.op rfl (Op1.ltI (.tmp rfl) (.tmp rfl)) ?_
                refine WL.ns ?_
                refine W.cond (.tmp rfl) (fun hc24 => ?_) (fun hc24 => ?_)
                · have hp25 := of_decide_eq_true hc24
                  rw [if_pos hp25] at hm
                  refine W.skip ?_
                  refine WN.seq ?_
                  refine W.seq ?_
                  refine W.block ?_
                  refine W.seq ?_
                  obtain ⟨v2, hv26, hm⟩ := bind_some hm
                  obtain ⟨v3, hv27, hm⟩ := bind_some hm
                  rcases bcases (decide (v2.Kind = v3.Kind)) with hb28 | hb28
                  · have hp29 := of_decide_eq_true hb28
                    rw [if_pos hp29] at hm
                    obtain ⟨v4, hv30, hm⟩ := bind_some hm
                    obtain ⟨v5, hv31, hm⟩ := bind_some hm
                    refine W.draw [.c ((tL tapi_Unit).ptr u.Kids), .c ((tL tapi_Unit).is u.Kids), .c ((tI .i64).is k), .c (tapi_Unit.ptr v2), .c ((tI .i64).ptr v2.Kind), .c ((tI .i64).is v2.Kind), .c ((tL tapi_Unit).ptr u.Kids), .c ((tL tapi_Unit).is u.Kids), .c ((tI .i64).is i), .c (tapi_Unit.ptr v3), .c ((tI .i64).ptr v3.Kind), .c ((tI .i64).is v3.Kind), .c (tB.is (decide (v2.Kind = v3.Kind))), .c (tB.is (decide (v2.Kind = v3.Kind))), .c ((tL tapi_Unit).ptr u.Kids), .c ((tL tapi_Unit).is u.Kids), .c ((tI .i64).is k), .c (tapi_Unit.ptr v4), .c (tS.ptr v4.Label), .c (tS.is v4.Label), .c ((tL tapi_Unit).ptr u.Kids), .c ((tL tapi_Unit).is u.Kids), .c ((tI .i64).is i), .c (tapi_Unit.ptr v5), .c (tS.ptr v5.Label), .c (tS.is v5.Label), .c (tB.is (v4.Label == v5.Label)), .c (tB.is (v4.Label == v5.Label))] [([], [1]), ([0], []), ([], [4]), ([1, 2], []), ([3], []), ([4], []), ([], [1]), ([6], []), ([], [3]), ([7, 8], []), ([9], []), ([10], []), ([5, 11], []), ([12], []), ([13], [1]), ([13, 14], []), ([13], [4]), ([13, 15, 16], []), ([13, 17], []), ([13, 18], []), ([13], [1]), ([13, 20], []), ([13], [3]), ([13, 21, 22], []), ([13, 23], []), ([13, 24], []), ([13, 19, 25], []), ([13, 26], [])] Try.mixed rfl rfl rfl rfl (by exact ⟨.inr (Op1.fieldAddr Try.underlying27 rfl (fun w => ⟨0, Try.sizeOf25 w⟩) fapi_Unit_5 (.tmp rfl)), .inr (Op1.load ty25 (.tmp rfl)), .inr (Op1.move (.tmp rfl)), .inr (Op1.idx hv26 Try.underlying25 Try.sizeOf27 (.tmp rfl) (.tmp rfl)), .inr (Op1.fieldAddr Try.underlying27 rfl (fun w => ⟨0, Try.sizeOf3 w⟩) fapi_Unit_1 (.tmp rfl)), .inr (Op1.load ty3 (.tmp rfl)), .inr (Op1.fieldAddr Try.underlying27 rfl (fun w => ⟨0, Try.sizeOf25 w⟩) fapi_Unit_5 (.tmp rfl)), .inr (Op1.load ty25 (.tmp rfl)), .inr (Op1.move (.tmp rfl)), .inr (Op1.idx hv27 Try.underlying25 Try.sizeOf27 (.tmp rfl) (.tmp rfl)), .inr (Op1.fieldAddr Try.underlying27 rfl (fun w => ⟨0, Try.sizeOf3 w⟩) fapi_Unit_1 (.tmp rfl)), .inr (Op1.load ty3 (.tmp rfl)), .inr (Op1.eqI (.tmp rfl) (.tmp rfl)), .inr (Op1.move (.tmp rfl)), .inr ⟨_, _, _, rfl, rfl, .inl ⟨rfl, .inl ⟨hb28, Op1.fieldAddr Try.underlying27 rfl (fun w => ⟨0, Try.sizeOf25 w⟩) fapi_Unit_5 (.tmp rfl)⟩⟩⟩, .inr ⟨_, _, _, rfl, rfl, .inl ⟨rfl, .inl ⟨hb28, Op1.load ty25 (.tmp rfl)⟩⟩⟩, .inr ⟨_, _, _, rfl, rfl, .inl ⟨rfl, .inl ⟨hb28, Op1.move (.tmp rfl)⟩⟩⟩, .inr ⟨_, _, _, rfl, rfl, .inl ⟨rfl, .inl ⟨hb28, Op1.idx hv30 Try.underlying25 Try.sizeOf27 (.tmp rfl) (.tmp rfl)⟩⟩⟩, .inr ⟨_, _, _, rfl, rfl, .inl ⟨rfl, .inl ⟨hb28, Op1.fieldAddr Try.underlying27 rfl (fun w => ⟨0, Try.sizeOf9 w⟩) fapi_Unit_2 (.tmp rfl)⟩⟩⟩, .inr ⟨_, _, _, rfl, rfl, .inl ⟨rfl, .inl ⟨hb28, Op1.load ty9 (.tmp rfl)⟩⟩⟩, .inr ⟨_, _, _, rfl, rfl, .inl ⟨rfl, .inl ⟨hb28, Op1.fieldAddr Try.underlying27 rfl (fun w => ⟨0, Try.sizeOf25 w⟩) fapi_Unit_5 (.tmp rfl)⟩⟩⟩, .inr ⟨_, _, _, rfl, rfl, .inl ⟨rfl, .inl ⟨hb28, Op1.load ty25 (.tmp rfl)⟩⟩⟩, .inr ⟨_, _, _, rfl, rfl, .inl ⟨rfl, .inl ⟨hb28, Op1.move (.tmp rfl)⟩⟩⟩, .inr ⟨_, _, _, rfl, rfl, .inl ⟨rfl, .inl ⟨hb28, Op1.idx hv31 Try.underlying25 Try.sizeOf27 (.tmp rfl) (.tmp rfl)⟩⟩⟩, .inr ⟨_, _, _, rfl, rfl, .inl ⟨rfl, .inl ⟨hb28, Op1.fieldAddr Try.underlying27 rfl (fun w => ⟨0, Try.sizeOf9 w⟩) fapi_Unit_2 (.tmp rfl)⟩⟩⟩, .inr ⟨_, _, _, rfl, rfl, .inl ⟨rfl, .inl ⟨hb28, Op1.load ty9 (.tmp rfl)⟩⟩⟩, .inr ⟨_, _, _, rfl, rfl, .inl ⟨rfl, .inl ⟨hb28, Op1.eqS (.tmp rfl) (.tmp rfl)⟩⟩⟩, .inr (Op1.pickT (.tmp rfl) hb28 (.tmp rfl)), trivial⟩) ?_
                    refine WN.seq ?_
                    refine W.cond (.tmp rfl) (fun hc32 => ?_) (fun hc32 => ?_)
                    · have hp33 := hc32
                      rw [if_pos hp33] at hm
                      refine W.sr ?_
                      refine WL.op rfl (Op1.assign .bool) ?_
                      refine WL.ns ?_
                      have hr34 := Option.some.inj hm
                      clear hm
                      subst hr34
                      have hm := hk22
                      try dsimp only at hm
                      have hr35 := Option.some.inj hm
                      clear hm
                      subst hr35
                      have hm := hk6
                      try dsimp only at hm
                      cases hm
                      exact W.ret1 () rfl (.tmp rfl) trivial
                    · have hp33 := ne_of_false hc32
                      rw [if_neg hp33] at hm
                      refine W.skip ?_
                      refine WN.block ?_
                      refine WN.seq ?_
                      refine W.region ?_
                      refine WL.mv rfl rfl ?_
                      obtain ⟨v6, hv36, hm⟩ := bind_some hm
                      refine WL.op rfl (Op1.addC hv36 (.tmp rfl) (.int (inR64.2 (by omega)))) ?_
                      refine WL.gv rfl rfl ?_
                      refine WL.nil ?_
                      exact WN.again n23 v6 (Nat.lt_succ_self n23) hm ⟨Ent.q rfl, Ent.q rfl, Ent.q rfl, trivial⟩ trivial
                  · have hp29 := of_decide_eq_false hb28
                    rw [if_neg hp29] at hm
                    refine W.draw [.c ((tL tapi_Unit).ptr u.Kids), .c ((tL tapi_Unit).is u.Kids), .c ((tI .i64).is k), .c (tapi_Unit.ptr v2), .c ((tI .i64).ptr v2.Kind), .c ((tI .i64).is v2.Kind), .c ((tL tapi_Unit).ptr u.Kids), .c ((tL tapi_Unit).is u.Kids), .c ((tI .i64).is i), .c (tapi_Unit.ptr v3), .c ((tI .i64).ptr v3.Kind), .c ((tI .i64).is v3.Kind), .c (tB.is (decide (v2.Kind = v3.Kind))), .c (tB.is (decide (v2.Kind = v3.Kind))), .c (Asn.eq undef), .c (Asn.eq undef), .c (Asn.eq undef), .c (Asn.eq undef), .c (Asn.eq undef), .c (Asn.eq undef), .c (Asn.eq undef), .c (Asn.eq undef), .c (Asn.eq undef), .c (Asn.eq undef), .c (Asn.eq undef), .c (Asn.eq undef), .c (Asn.eq undef), .c (tB.is false)] [([], [1]), ([0], []), ([], [4]), ([1, 2], []), ([3], []), ([4], []), ([], [1]), ([6], []), ([], [3]), ([7, 8], []), ([9], []), ([10], []), ([5, 11], []), ([12], []), ([13], [1]), ([13, 14], []), ([13], [4]), ([13, 15, 16], []), ([13, 17], []), ([13, 18], []), ([13], [1]), ([13, 20], []), ([13], [3]), ([13, 21, 22], []), ([13, 23], []), ([13, 24], []), ([13, 19, 25], []), ([13, 26], [])] Try.mixed rfl rfl rfl rfl (by exact ⟨.inr (Op1.fieldAddr Try.underlying27 rfl (fun w => ⟨0, Try.sizeOf25 w⟩) fapi_Unit_5 (.tmp rfl)), .inr (Op1.load ty25 (.tmp rfl)), .inr (Op1.move (.tmp rfl)), .inr (Op1.idx hv26 Try.underlying25 Try.sizeOf27 (.tmp rfl) (.tmp rfl)), .inr (Op1.fieldAddr Try.underlying27 rfl (fun w => ⟨0, Try.sizeOf3 w⟩) fapi_Unit_1 (.tmp rfl)), .inr (Op1.load ty3 (.tmp rfl)), .inr (Op1.fieldAddr Try.underlying27 rfl (fun w => ⟨0, Try.sizeOf25 w⟩) fapi_Unit_5 (.tmp rfl)), .inr (Op1.load ty25 (.tmp rfl)), .inr (Op1.move (.tmp rfl)), .inr (Op1.idx hv27 Try.underlying25 Try.sizeOf27 (.tmp rfl) (.tmp rfl)), .inr (Op1.fieldAddr Try.underlying27 rfl (fun w => ⟨0, Try.sizeOf3 w⟩) fapi_Unit_1 (.tmp rfl)), .inr (Op1.load ty3 (.tmp rfl)), .inr (Op1.eqI (.tmp rfl) (.tmp rfl)), .inr (Op1.move (.tmp rfl)), .inr ⟨_, _, _, rfl, rfl, .inl ⟨rfl, .inr ⟨hb28, rfl⟩⟩⟩, .inr ⟨_, _, _, rfl, rfl, .inl ⟨rfl, .inr ⟨hb28, rfl⟩⟩⟩, .inr ⟨_, _, _, rfl, rfl, .inl ⟨rfl, .inr ⟨hb28, rfl⟩⟩⟩, .inr ⟨_, _, _, rfl, rfl, .inl ⟨rfl, .inr ⟨hb28, rfl⟩⟩⟩, .inr ⟨_, _, _, rfl, rfl, .inl ⟨rfl, .inr ⟨hb28, rfl⟩⟩⟩, .inr ⟨_, _, _, rfl, rfl, .inl ⟨rfl, .inr ⟨hb28, rfl⟩⟩⟩, .inr ⟨_, _, _, rfl, rfl, .inl ⟨rfl, .inr ⟨hb28, rfl⟩⟩⟩, .inr ⟨_, _, _, rfl, rfl, .inl ⟨rfl, .inr ⟨hb28, rfl⟩⟩⟩, .inr ⟨_, _, _, rfl, rfl, .inl ⟨rfl, .inr ⟨hb28, rfl⟩⟩⟩, .inr ⟨_, _, _, rfl, rfl, .inl ⟨rfl, .inr ⟨hb28, rfl⟩⟩⟩, .inr ⟨_, _, _, rfl, rfl, .inl ⟨rfl, .inr ⟨hb28, rfl⟩⟩⟩, .inr ⟨_, _, _, rfl, rfl, .inl ⟨rfl, .inr ⟨hb28, rfl⟩⟩⟩, .inr ⟨_, _, _, rfl, rfl, .inl ⟨rfl, .inr ⟨hb28, rfl⟩⟩⟩, .inr (Op1.pickF (.tmp rfl) hb28 .bool), trivial⟩) ?_
                    refine WN.seq ?_
                    refine W.condF (.tmp rfl) ?_
                    refine W.skip ?_
                    refine WN.block ?_
                    refine WN.seq ?_
                    refine W.region ?_
                    refine WL.mv rfl rfl ?_
                    obtain ⟨v7, hv37, hm⟩ := bind_some hm
                    refine WL.op rfl (Op1.addC hv37 (.tmp rfl) (.int (inR64.2 (by omega)))) ?_
                    refine WL.gv rfl rfl ?_
                    refine WL.nil ?_
                    exact WN.again n23 v7 (Nat.lt_succ_self n23) hm ⟨Ent.q rfl, Ent.q rfl, Ent.q rfl, trivial⟩ trivial
                · have hp25 := of_decide_eq_false hc24
                  rw [if_neg hp25] at hm
                  refine W.exit rfl ?_
                  have hr38 := Option.some.inj hm
                  clear hm
                  subst hr38
                  have hm := hk22
                  try dsimp only at hm
                  refine WN.block ?_
                  refine WN.seq ?_
                  refine W.region ?_
                  refine WL.mv rfl rfl ?_
                  obtain ⟨v8, hv39, hm⟩ := bind_some hm
                  refine WL.op rfl (Op1.addC hv39 (.tmp rfl) (.int (inR64.2 (by omega)))) ?_
                  refine WL.gv rfl rfl ?_
                  refine WL.nil ?_
                  exact WN.again n7 v8 (Nat.lt_succ_self n7) hm ⟨Ent.q rfl, Ent.q rfl, trivial⟩ trivial
        · have hp9 := of_decide_eq_false hc8
          rw [if_neg hp9] at hm
          refine W.exit rfl ?_
          have hr40 := Option.some.inj hm
          clear hm
          subst hr40
          have hm := hk6
          try dsimp only at hm
          refine WN.seq ?_
          refine W.sr ?_
          refine WL.op rfl (Op1.assign .bool) ?_
          refine WL.ns ?_
          cases hm
          exact W.ret1 () rfl (.tmp rfl) trivial

theorem r06_Depth_spec : ∀ (n : Nat) (u : api_Unit) (r : Int), M.r06_Depth n u = some r → FSpec Try.prog 72 [(tapi_Unit.is u)] ((tI .i64).is r) := by
  intro n
  induction n with
  | zero => intro u r hm; cases hm
  | succ n ih =>
    intro u r hm
    rw [M.r06_Depth.eq_2] at hm
    refine FSpec.of Try.func72 rfl rfl rfl (fun g0 => ?_)
    refine W.sr ?_
    refine WL.op rfl (Op1.box (.tmp rfl)) ?_
    refine WL.op rfl (Op1.assign (.int (inR64.2 (by omega)))) ?_
    refine WL.nr ?_
    refine WL.op rfl (Op1.assign (.int (inR64.2 (by omega)))) ?_
    refine WL.ns ?_
    refine W.seq ?_
    refine W.sr ?_
    refine WL.op rfl (Op1.assign (.int (inR64.2 (by omega)))) ?_
    refine WL.ns ?_
    refine W.block ?_
    obtain ⟨s1, hs2, hk3⟩ := bind_some hm
    clear hm
    refine W.loop (fun m (s : Int × Int) => M.r06_Depth_loop1 u (M.r06_Depth n) m s.1 s.2 = some s1) (fun s => [(3, ((tI .i64).is s.1)), (4, ((tI .i64).is s.2)), (1, (tapi_Unit.ptr u))]) (fun s => []) _ ((0 : Int), (0 : Int)) hs2 ⟨Ent.q rfl, Ent.q rfl, Ent.q rfl, trivial⟩ trivial ?_
    rintro n4 ⟨d, i⟩ hm
    try dsimp only at hm
    change W _ _ _ _ _ _ _ [(3, ((tI .i64).is d)), (4, ((tI .i64).is i)), (1, (tapi_Unit.ptr u))] []
    cases n4 with
    | zero => rw [M.r06_Depth_loop1.eq_1] at hm; cases hm
    | succ n4 =>
      rw [M.r06_Depth_loop1.eq_2] at hm
      refine W.seq ?_
      refine W.sr ?_
      refine WL.mv rfl rfl ?_
      refine WL.op rfl (Op1.fieldAddr Try.underlying27 rfl (fun w => ⟨0, Try.sizeOf25 w⟩) fapi_Unit_5 (.tmp rfl)) ?_
      refine WL.op rfl (Op1.load ty25 (.tmp rfl)) ?_
      refine WL.op rfl (Op1.lenL Try.underlying25 (.tmp rfl)) ?_
      refine WL.op rfl (Op1.ltI (.tmp rfl) (.tmp rfl)) ?_
      refine WL.ns ?_
      refine W.cond (.tmp rfl) (fun hc5 => ?_) (fun hc5 => ?_)
      · have hp6 := of_decide_eq_true hc5
        rw [if_pos hp6] at hm
        refine W.skip ?_
        refine WN.seq ?_
        refine W.seq ?_
        refine W.block ?_
        refine W.region ?_
        refine WL.mv rfl rfl ?_
        refine WL.op rfl (Op1.fieldAddr Try.underlying27 rfl (fun w => ⟨0, Try.sizeOf25 w⟩) fapi_Unit_5 (.tmp rfl)) ?_
        refine WL.op rfl (Op1.load ty25 (.tmp rfl)) ?_
        refine WL.mv rfl rfl ?_
        obtain ⟨v, hv7, hm⟩ := bind_some hm
        refine WL.op rfl (Op1.idx hv7 Try.underlying25 Try.sizeOf27 (.tmp rfl) (.tmp rfl)) ?_
        refine WL.op rfl (Op1.load ty27 (.tmp rfl)) ?_
        obtain ⟨depth, hv8, hm⟩ := bind_some hm
        refine WL.op rfl (Op1.call Try.call72 (ih _ _ hv8) ⟨(.tmp rfl), trivial⟩) ?_
        obtain ⟨v1, hv9, hm⟩ := bind_some hm
        refine WL.op rfl (Op1.addC hv9 (.int (inR64.2 (by omega))) (.tmp rfl)) ?_
        refine WL.op rfl (Op1.maxI (.tmp rfl) (.tmp rfl)) ?_
        refine WL.gv rfl rfl ?_
        refine WL.nil ?_
        refine WN.block ?_
        refine WN.seq ?_
        refine W.region ?_
        refine WL.mv rfl rfl ?_
        refine WL.lenL (s := 7) (.tmp rfl) fun hl10 => ?_
        refine WL.op rfl (Op1.addI1 (.tmp rfl) (.int (inR64.2 (by omega))) hp6 hl10) ?_
        refine WL.gv rfl rfl ?_
        refine WL.nil ?_
        exact WN.again n4 (max d v1, i + 1) (Nat.lt_succ_self n4) hm ⟨Ent.q rfl, Ent.q rfl, Ent.q rfl, trivial⟩ trivial
      · have hp6 := of_decide_eq_false hc5
        rw [if_neg hp6] at hm
        refine W.exit rfl ?_
        have hr11 := Option.some.inj hm
        clear hm
        subst hr11
        have hm := hk3
        try dsimp only at hm
        refine WN.seq ?_
        refine W.sr ?_
        refine WL.mv rfl rfl ?_
        refine WL.gv rfl rfl ?_
        refine WL.ns ?_
        cases hm
        exact W.ret1 () rfl (.tmp rfl) trivial

theorem r06_Count_spec : ∀ (n : Nat) (u : api_Unit) (r : Int), M.r06_Count n u = some r → FSpec Try.prog 73 [(tapi_Unit.is u)] ((tI .i64).is r) := by
  intro n
  induction n with
  | zero => intro u r hm; cases hm
  | succ n ih =>
    intro u r hm
    rw [M.r06_Count.eq_2] at hm
    refine FSpec.of Try.func73 rfl rfl rfl (fun g0 => ?_)
    refine W.sr ?_
    refine WL.op rfl (Op1.box (.tmp rfl)) ?_
    refine WL.op rfl (Op1.assign (.int (inR64.2 (by omega)))) ?_
    refine WL.nr ?_
    refine WL.op rfl (Op1.assign (.int (inR64.2 (by omega)))) ?_
    refine WL.ns ?_
    refine W.seq ?_
    refine W.sr ?_
    refine WL.op rfl (Op1.assign (.int (inR64.2 (by omega)))) ?_
    refine WL.ns ?_
    refine W.block ?_
    obtain ⟨s1, hs2, hk3⟩ := bind_some hm
    clear hm
    refine W.loop (fun m (s : Int × Int) => M.r06_Count_loop1 u (M.r06_Count n) m s.1 s.2 = some s1) (fun s => [(3, ((tI .i64).is s.1)), (4, ((tI .i64).is s.2)), (1, (tapi_Unit.ptr u))]) (fun s => []) _ ((1 : Int), (0 : Int)) hs2 ⟨Ent.q rfl, Ent.q rfl, Ent.q rfl, trivial⟩ trivial ?_
    rintro n4 ⟨n0_, i⟩ hm
    try dsimp only at hm
    change W _ _ _ _ _ _ _ [(3, ((tI .i64).is n0_)), (4, ((tI .i64).is i)), (1, (tapi_Unit.ptr u))] []
    cases n4 with
    | zero => rw [M.r06_Count_loop1.eq_1] at hm; cases hm
    | succ n4 =>
      rw [M.r06_Count_loop1.eq_2] at hm
      refine W.seq ?_
      refine W.sr ?_
      refine WL.mv rfl rfl ?_
      refine WL.op rfl (Op1.fieldAddr Try.underlying27 rfl (fun w => ⟨0, Try.sizeOf25 w⟩) fapi_Unit_5 (.tmp rfl)) ?_
      refine WL.op rfl (Op1.load ty25 (.tmp rfl)) ?_
      refine WL.op rfl (Op1.lenL Try.underlying25 (.tmp rfl)) ?_
      refine WL.op rfl (Op1.ltI (.tmp rfl) (.tmp rfl)) ?_
      refine WL.ns ?_
      refine W.cond (.tmp rfl) (fun hc5 => ?_) (fun hc5 => ?_)
      · have hp6 := of_decide_eq_true hc5
        rw [if_pos hp6] at hm
        refine W.skip ?_
        refine WN.seq ?_
        refine W.seq ?_
        refine W.block ?_
        refine W.region ?_
        refine WL.mv rfl rfl ?_
        refine WL.op rfl (Op1.fieldAddr Try.underlying27 rfl (fun w => ⟨0, Try.sizeOf25 w⟩) fapi_Unit_5 (.tmp rfl)) ?_
        refine WL.op rfl (Op1.load ty25 (.tmp rfl)) ?_
        refine WL.mv rfl rfl ?_
        obtain ⟨v, hv7, hm⟩ := bind_some hm
        refine WL.op rfl (Op1.idx hv7 Try.underlying25 Try.sizeOf27 (.tmp rfl) (.tmp rfl)) ?_
        refine WL.op rfl (Op1.load ty27 (.tmp rfl)) ?_
        obtain ⟨count, hv8, hm⟩ := bind_some hm
        refine WL.op rfl (Op1.call Try.call73 (ih _ _ hv8) ⟨(.tmp rfl), trivial⟩) ?_
        obtain ⟨v1, hv9, hm⟩ := bind_some hm
        refine WL.op rfl (Op1.addC hv9 (.tmp rfl) (.tmp rfl)) ?_
        refine WL.gv rfl rfl ?_
        refine WL.nil ?_
        refine WN.block ?_
        refine WN.seq ?_
        refine W.region ?_
        refine WL.mv rfl rfl ?_
        refine WL.lenL (s := 7) (.tmp rfl) fun hl10 => ?_
        refine WL.op rfl (Op1.addI1 (.tmp rfl) (.int (inR64.2 (by omega))) hp6 hl10) ?_
        refine WL.gv rfl rfl ?_
        refine WL.nil ?_
        exact WN.again n4 (v1, i + 1) (Nat.lt_succ_self n4) hm ⟨Ent.q rfl, Ent.q rfl, Ent.q rfl, trivial⟩ trivial
      · have hp6 := of_decide_eq_false hc5
        rw [if_neg hp6] at hm
        refine W.exit rfl ?_
        have hr11 := Option.some.inj hm
        clear hm
        subst hr11
        have hm := hk3
        try dsimp only at hm
        refine WN.seq ?_
        refine W.sr ?_
        refine WL.mv rfl rfl ?_
        refine WL.gv rfl rfl ?_
        refine WL.ns ?_
        cases hm
        exact W.ret1 () rfl (.tmp rfl) trivial

theorem r06_All_spec : ∀ (n : Nat) (u : api_Unit) (r : (List api_Id)), M.r06_All n u = some r → FSpec Try.prog 13 [(tapi_Unit.is u)] ((tL tapi_Id).is r) := by
  intro n
  induction n with
  | zero => intro u r hm; cases hm
  | succ n ih =>
    intro u r hm
    rw [M.r06_All.eq_2] at hm
    refine FSpec.of Try.func13 rfl rfl rfl (fun g0 => ?_)
    refine W.sr ?_
    refine WL.op rfl (Op1.box (.tmp rfl)) ?_
    refine WL.op rfl (Op1.assign (.nil (t := tapi_Id))) ?_
    refine WL.nr ?_
    refine WL.op rfl (Op1.fieldAddr Try.underlying27 rfl (fun w => ⟨2, Try.sizeOf23 w⟩) fapi_Unit_0 (.tmp rfl)) ?_
    refine WL.op rfl (Op1.load ty23 (.tmp rfl)) ?_
    refine WL.opR rfl (OpR.buildSlice (n := 1) (ys := [(0, u.Id)]) (z := zapi_Id) (xs := [u.Id]) 7 Try.underlying42 el23 ze23 ⟨rfl, (.tmp rfl), trivial⟩ (by simp) (by decide) rfl) (fun k => ?_)
    refine WL.gv rfl rfl ?_
    refine WL.ns ?_
    refine W.seq ?_
    refine W.sr ?_
    refine WL.op rfl (Op1.assign (.int (inR64.2 (by omega)))) ?_
    refine WL.ns ?_
    refine W.block ?_
    obtain ⟨s1, hs2, hk3⟩ := bind_some hm
    clear hm
    refine W.loop (fun m (s : ((List api_Id) × Int) × Tok) => M.r06_All_loop1 u (M.r06_All n) m s.1.1 s.1.2 = some s1) (fun s => [(3, (tO tapi_Id s.2 s.1.1)), (4, ((tI .i64).is s.1.2)), (1, (tapi_Unit.ptr u))]) (fun s => [(7, Own tapi_Id 23 s.2 s.1.1.length)]) _ (([u.Id], (0 : Int)), k) hs2 ⟨Ent.q rfl, Ent.q rfl, Ent.q rfl, trivial⟩ ⟨rfl, rfl, trivial⟩ ?_
    rintro n4 ⟨⟨out, i⟩, k1⟩ hm
    try dsimp only at hm
    change W _ _ _ _ _ _ _ [(3, (tO tapi_Id k1 out)), (4, ((tI .i64).is i)), (1, (tapi_Unit.ptr u))] [(7, Own tapi_Id 23 k1 out.length)]
    cases n4 with
    | zero => rw [M.r06_All_loop1.eq_1] at hm; cases hm
    | succ n4 =>
      rw [M.r06_All_loop1.eq_2] at hm
      refine W.seq ?_
      refine W.sr ?_
      refine WL.mv rfl rfl ?_
      refine WL.op rfl (Op1.fieldAddr Try.underlying27 rfl (fun w => ⟨0, Try.sizeOf25 w⟩) fapi_Unit_5 (.tmp rfl)) ?_
      refine WL.op rfl (Op1.load ty25 (.tmp rfl)) ?_
      refine WL.op rfl (Op1.lenL Try.underlying25 (.tmp rfl)) ?_
      refine WL.op rfl (Op1.ltI (.tmp rfl) (.tmp rfl)) ?_
      refine WL.ns ?_
      refine W.cond (.tmp rfl) (fun hc5 => ?_) (fun hc5 => ?_)
      · have hp6 := of_decide_eq_true hc5
        rw [if_pos hp6] at hm
        refine W.skip ?_
        refine WN.seq ?_
        refine W.seq ?_
        refine W.block ?_
        refine W.region ?_
        refine WL.mv rfl rfl ?_
        refine WL.op rfl (Op1.fieldAddr Try.underlying27 rfl (fun w => ⟨0, Try.sizeOf25 w⟩) fapi_Unit_5 (.tmp rfl)) ?_
        refine WL.op rfl (Op1.load ty25 (.tmp rfl)) ?_
        refine WL.mv rfl rfl ?_
        obtain ⟨v, hv7, hm⟩ := bind_some hm
        refine WL.op rfl (Op1.idx hv7 Try.underlying25 Try.sizeOf27 (.tmp rfl) (.tmp rfl)) ?_
        refine WL.op rfl (Op1.load ty27 (.tmp rfl)) ?_
        obtain ⟨all, hv8, hm⟩ := bind_some hm
        refine WL.op rfl (Op1.call Try.call13 (ih _ _ hv8) ⟨(.tmp rfl), trivial⟩) ?_
        obtain ⟨out1, hv9, hm⟩ := bind_some hm
        refine WL.opR rfl (OpR.appC (key := 7) hv9 Try.underlying42 el23 (.tmp rfl) (.tmp rfl) rfl) (fun k2 => ?_)
        refine WL.gv rfl rfl ?_
        refine WL.nil ?_
        refine WN.block ?_
        refine WN.seq ?_
        refine W.region ?_
        refine WL.mv rfl rfl ?_
        refine WL.lenL (s := 10) (.tmp rfl) fun hl10 => ?_
        refine WL.op rfl (Op1.addI1 (.tmp rfl) (.int (inR64.2 (by omega))) hp6 hl10) ?_
        refine WL.gv rfl rfl ?_
        refine WL.nil ?_
        exact WN.again n4 ((out1, i + 1), k2) (Nat.lt_succ_self n4) hm ⟨Ent.q rfl, Ent.q rfl, Ent.q rfl, trivial⟩ ⟨rfl, rfl, trivial⟩
      · have hp6 := of_decide_eq_false hc5
        rw [if_neg hp6] at hm
        refine W.exit rfl ?_
        have hr11 := Option.some.inj hm
        clear hm
        subst hr11
        have hm := hk3
        try dsimp only at hm
        refine WN.seq ?_
        refine W.sr ?_
        refine WL.mv rfl rfl ?_
        refine WL.gv rfl rfl ?_
        refine WL.ns ?_
        cases hm
        exact W.ret1 () rfl (Opd.own (.tmp rfl)) trivial

theorem r06_Ids_spec (n : Nat) (u : api_Unit) (r : Bool) (hm : M.r06_Ids n u = some r) : FSpec Try.prog 74 [(tapi_Unit.is u)] (tB.is r) := by
  unfold M.r06_Ids at hm
  refine FSpec.of Try.func74 rfl rfl rfl (fun g0 => ?_)
  refine W.sr ?_
  refine WL.op rfl (Op1.box (.tmp rfl)) ?_
  refine WL.op rfl (Op1.assign .bool) ?_
  refine WL.nr ?_
  refine WL.op rfl (Op1.load ty27 (.tmp rfl)) ?_
  obtain ⟨all, hv1, hm⟩ := bind_some hm
  refine WL.op rfl (Op1.call Try.call13 (r06_All_spec _ _ _ hv1) ⟨(.tmp rfl), trivial⟩) ?_
  refine WL.gv rfl rfl ?_
  refine WL.nr ?_
  refine WL.op rfl (Op1.assign .bool) ?_
  refine WL.ns ?_
  refine W.seq ?_
  refine W.sr ?_
  refine WL.op rfl (Op1.assign (.int (inR64.2 (by omega)))) ?_
  refine WL.ns ?_
  refine W.block ?_
  obtain ⟨s2, hs3, hk4⟩ := bind_some hm
  clear hm
  refine W.loop (fun m (s : Bool × Int) => M.r06_Ids_loop1 all m s.1 s.2 = some s2) (fun s => [(4, (tB.is s.1)), (5, ((tI .i64).is s.2)), (1, (tapi_Unit.ptr u)), (3, ((tL tapi_Id).is all))]) (fun s => []) _ (true, (0 : Int)) hs3 ⟨Ent.q rfl, Ent.q rfl, Ent.q rfl, Ent.q rfl, trivial⟩ trivial ?_
  rintro n5 ⟨none0_, i⟩ hm
  try dsimp only at hm
  change W _ _ _ _ _ _ _ [(4, (tB.is none0_)), (5, ((tI .i64).is i)), (1, (tapi_Unit.ptr u)), (3, ((tL tapi_Id).is all))] []
  cases n5 with
  | zero => rw [M.r06_Ids_loop1.eq_1] at hm; cases hm
  | succ n5 =>
    rw [M.r06_Ids_loop1.eq_2] at hm
    refine W.seq ?_
    refine W.sr ?_
    refine WL.mv rfl rfl ?_
    refine WL.mv rfl rfl ?_
    refine WL.op rfl (Op1.lenL Try.underlying42 (.tmp rfl)) ?_
    refine WL.op rfl (Op1.ltI (.tmp rfl) (.tmp rfl)) ?_
    refine WL.ns ?_
    refine W.cond (.tmp rfl) (fun hc6 => ?_) (fun hc6 => ?_)
    · have hp7 := of_decide_eq_true hc6
      rw [if_pos hp7] at hm
      refine W.skip ?_
      refine WN.seq ?_
      refine W.seq ?_
      refine W.block ?_
      refine W.region ?_
      refine WL.mv rfl rfl ?_
      refine WL.mv rfl rfl ?_
      rcases bcases (none0_) with hb8 | hb8
      · have hp9 := hb8
        rw [if_pos hp9] at hm
        refine WL.run rfl rfl rfl rfl hb8 rfl rfl (Op1.move (.tmp rfl)) ?_
        refine WL.run rfl rfl rfl rfl hb8 rfl rfl (Op1.move (.tmp rfl)) ?_
        obtain ⟨v, hv10, hm⟩ := bind_some hm
        refine WL.run rfl rfl rfl rfl hb8 rfl rfl (Op1.idx hv10 Try.underlying42 Try.sizeOf23 (.tmp rfl) (.tmp rfl)) ?_
        refine WL.run rfl rfl rfl rfl hb8 rfl rfl (Op1.load ty23 (.tmp rfl)) ?_
        refine WL.run rfl rfl rfl rfl hb8 rfl rfl (Op1.build (s := tapi_Id) (x := (⟨(0 : Int), (0 : Int), (0 : Int)⟩ : api_Id)) zapi_Id_f rfl Try.underlying23 (zapi_Id_sz _ Try.underlying23) ze23 rfl) ?_
        refine WL.run rfl rfl rfl rfl hb8 rfl rfl (Op1.eqSt (D := 2) rfl (by decide) eg23 eq23 (.tmp rfl) (.tmp rfl)) ?_
        refine WL.op rfl (Op1.pickT (.tmp rfl) hb8 (.tmp rfl)) ?_
        refine WL.gv rfl rfl ?_
        refine WL.nil ?_
        refine WN.block ?_
        refine WN.seq ?_
        refine W.region ?_
        refine WL.mv rfl rfl ?_
        refine WL.lenL (s := 3) (.tmp rfl) fun hl11 => ?_
        refine WL.op rfl (Op1.addI1 (.tmp rfl) (.int (inR64.2 (by omega))) hp7 hl11) ?_
        refine WL.gv rfl rfl ?_
        refine WL.nil ?_
        exact WN.again n5 (decide (v = (⟨(0 : Int), (0 : Int), (0 : Int)⟩ : api_Id)), i + 1) (Nat.lt_succ_self n5) hm ⟨Ent.q rfl, Ent.q rfl, Ent.q rfl, Ent.q rfl, trivial⟩ trivial
      · have hp9 := ne_of_false hb8
        rw [if_neg hp9] at hm
        refine WL.pass rfl rfl rfl rfl hb8 rfl rfl ?_
        refine WL.pass rfl rfl rfl rfl hb8 rfl rfl ?_
        refine WL.pass rfl rfl rfl rfl hb8 rfl rfl ?_
        refine WL.pass rfl rfl rfl rfl hb8 rfl rfl ?_
        refine WL.pass rfl rfl rfl rfl hb8 rfl rfl ?_
        refine WL.pass rfl rfl rfl rfl hb8 rfl rfl ?_
        refine WL.op rfl (Op1.pickF (.tmp rfl) hb8 .bool) ?_
        refine WL.gv rfl rfl ?_
        refine WL.nil ?_
        refine WN.block ?_
        refine WN.seq ?_
        refine W.region ?_
        refine WL.mv rfl rfl ?_
        refine WL.lenL (s := 3) (.tmp rfl) fun hl12 => ?_
        refine WL.op rfl (Op1.addI1 (.tmp rfl) (.int (inR64.2 (by omega))) hp7 hl12) ?_
        refine WL.gv rfl rfl ?_
        refine WL.nil ?_
        exact WN.again n5 (false, i + 1) (Nat.lt_succ_self n5) hm ⟨Ent.q rfl, Ent.q rfl, Ent.q rfl, Ent.q rfl, trivial⟩ trivial
    · have hp7 := of_decide_eq_false hc6
      rw [if_neg hp7] at hm
      refine W.exit rfl ?_
      have hr13 := Option.some.inj hm
      clear hm
      subst hr13
      have hm := hk4
      try dsimp only at hm
      refine WN.seq ?_
      refine W.seq ?_
      refine W.sr ?_
      refine WL.mv rfl rfl ?_
      refine WL.ns ?_
      refine W.cond (.tmp rfl) (fun hc14 => ?_) (fun hc14 => ?_)
      · have hp15 := hc14
        rw [if_pos hp15] at hm
        refine W.sr ?_
        refine WL.op rfl (Op1.assign .bool) ?_
        refine WL.ns ?_
        cases hm
        exact W.ret1 () rfl (.tmp rfl) trivial
      · have hp15 := ne_of_false hc14
        rw [if_neg hp15] at hm
        refine W.skip ?_
        refine WN.seq ?_
        refine W.seq ?_
        refine W.seq ?_
        obtain ⟨v1, hv16, hm⟩ := bind_some hm
        refine W.draw [.c ((tL tapi_Id).is all), .c (tapi_Id.ptr v1), .c (tapi_Id.is v1), .c (tapi_Id.is (⟨(0 : Int), (0 : Int), (0 : Int)⟩ : api_Id)), .c (tB.is (decide (v1 = (⟨(0 : Int), (0 : Int), (0 : Int)⟩ : api_Id)))), .c ((tI .i64).ptr u.Kind), .c ((tI .i64).is u.Kind), .c (tB.is (decide (u.Kind = (0 : Int)))), .c (tB.is ((decide (v1 = (⟨(0 : Int), (0 : Int), (0 : Int)⟩ : api_Id))) != (decide (u.Kind = (0 : Int)))))] [([], [3]), ([0], []), ([1], []), ([], []), ([2, 3], []), ([], [1]), ([5], []), ([6], []), ([4, 7], [])] Try.mixed rfl rfl rfl rfl ⟨.inr (Op1.move (.tmp rfl)), .inr (Op1.idx hv16 Try.underlying42 Try.sizeOf23 (.tmp rfl) (.int (inR64.2 (by omega)))), .inr (Op1.load ty23 (.tmp rfl)), .inr (Op1.build (s := tapi_Id) (x := (⟨(0 : Int), (0 : Int), (0 : Int)⟩ : api_Id)) zapi_Id_f rfl Try.underlying23 (zapi_Id_sz _ Try.underlying23) ze23 rfl), .inr (Op1.eqSt (D := 2) rfl (by decide) eg23 eq23 (.tmp rfl) (.tmp rfl)), .inr (Op1.fieldAddr Try.underlying27 rfl (fun w => ⟨0, Try.sizeOf3 w⟩) fapi_Unit_1 (.tmp rfl)), .inr (Op1.load ty3 (.tmp rfl)), .inr (Op1.eqI (.tmp rfl) (.int (inR64.2 (by omega)))), .inr (Op1.neB Try.underlying4 (.tmp rfl) (.tmp rfl)), trivial⟩ ?_
        refine WN.seq ?_
        refine W.cond (.tmp rfl) (fun hc17 => ?_) (fun hc17 => ?_)
        · have hp18 := hc17
          rw [if_pos hp18] at hm
          refine W.sr ?_
          refine WL.op rfl (Op1.assign .bool) ?_
          refine WL.ns ?_
          cases hm
          exact W.ret1 () rfl (.tmp rfl) trivial
        · have hp18 := ne_of_false hc17
          rw [if_neg hp18] at hm
          refine W.skip ?_
          refine WN.seq ?_
          refine W.seq ?_
          refine W.sr ?_
          refine WL.op rfl (Op1.assign (.int (inR64.2 (by omega)))) ?_
          refine WL.ns ?_
          refine W.block ?_
          obtain ⟨s19, hs20, hk21⟩ := bind_some hm
          clear hm
          refine W.loop (fun m (s : Int) => M.r06_Ids_loop2 all m s = some s19) (fun s => [(6, ((tI .i64).is s)), (3, ((tL tapi_Id).is all))]) (fun s => []) _ (0 : Int) hs20 ⟨Ent.q rfl, Ent.q rfl, trivial⟩ trivial ?_
          rintro n22 i1 hm
          try dsimp only at hm
          change W _ _ _ _ _ _ _ [(6, ((tI .i64).is i1)), (3, ((tL tapi_Id).is all))] []
          cases n22 with
          | zero => rw [M.r06_Ids_loop2.eq_1] at hm; cases hm
          | succ n22 =>
            rw [M.r06_Ids_loop2.eq_2] at hm
            refine W.seq ?_
            refine W.sr ?_
            refine WL.mv rfl rfl ?_
            refine WL.mv rfl rfl ?_
            refine WL.op rfl (Op1.lenL Try.underlying42 (.tmp rfl)) ?_
            refine WL.op rfl (Op1.ltI (.tmp rfl) (.tmp rfl)) ?_
            refine WL.ns ?_
            refine W.cond (.tmp rfl) (fun hc23 => ?_) (fun hc23 => ?_)
            · have hp24 := of_decide_eq_true hc23
              rw [if_pos hp24] at hm
              refine W.skip ?_
              refine WN.seq ?_
              refine W.seq ?_
              refine W.block ?_
              refine W.sr ?_
              refine WL.op rfl (Op1.assign (.int (inR64.2 (by omega)))) ?_
              refine WL.ns ?_
              refine W.block ?_
              obtain ⟨s25, hs26, hk27⟩ := bind_some hm
              clear hm
              refine W.loop (fun m (s : Int) => M.r06_Ids_loop3 all i1 m s = some s25) (fun s => [(7, ((tI .i64).is s)), (3, ((tL tapi_Id).is all)), (6, ((tI .i64).is i1))]) (fun s => []) _ (0 : Int) hs26 ⟨Ent.q rfl, Ent.q rfl, Ent.q rfl, trivial⟩ trivial ?_
              rintro n28 k hm
              try dsimp only at hm
              change W _ _ _ _ _ _ _ [(7, ((tI .i64).is k)), (3, ((tL tapi_Id).is all)), (6, ((tI .i64).is i1))] []
              cases n28 with
              | zero => rw [M.r06_Ids_loop3.eq_1] at hm; cases hm
              | succ n28 =>
                rw [M.r06_Ids_loop3.eq_2] at hm
                refine W.seq ?_
                refine W.sr ?_
                refine WL.mv rfl rfl ?_
                refine WL.mv rfl rfl ?_
                refine WL.op rfl (Op1.ltI (.tmp rfl) (.tmp rfl)) ?_
                refine WL.ns ?_
                refine W.cond (.tmp rfl) (fun hc29 => ?_) (fun hc29 => ?_)
                · have hp30 := of_decide_eq_true hc29
                  rw [if_pos hp30] at hm
                  refine W.skip ?_
                  refine WN.seq ?_
                  refine W.seq ?_
                  refine W.block ?_
                  refine W.seq ?_
                  obtain ⟨v2, hv31, hm⟩ := bind_some hm
                  obtain ⟨v3, hv32, hm⟩ := bind_some hm
                  refine W.draw [.c ((tL tapi_Id).is all), .c ((tI .i64).is k), .c (tapi_Id.ptr v2), .c (tapi_Id.is v2), .c ((tL tapi_Id).is all), .c ((tI .i64).is i1), .c (tapi_Id.ptr v3), .c (tapi_Id.is v3), .c (tB.is (decide (v2 = v3)))] [([], [3]), ([], [7]), ([0, 1], []), ([2], []), ([], [3]), ([], [6]), ([4, 5], []), ([6], []), ([3, 7], [])] Try.mixed rfl rfl rfl rfl ⟨.inr (Op1.move (.tmp rfl)), .inr (Op1.move (.tmp rfl)), .inr (Op1.idx hv31 Try.underlying42 Try.sizeOf23 (.tmp rfl) (.tmp rfl)), .inr (Op1.load ty23 (.tmp rfl)), .inr (Op1.move (.tmp rfl)), .inr (Op1.move (.tmp rfl)), .inr (Op1.idx hv32 Try.underlying42 Try.sizeOf23 (.tmp rfl) (.tmp rfl)), .inr (Op1.load ty23 (.tmp rfl)), .inr (Op1.eqSt (D := 2) rfl (by decide) eg23 eq23 (.tmp rfl) (.tmp rfl)), trivial⟩ ?_
                  refine WN.seq ?_
                  refine W.cond (.tmp rfl) (fun hc33 => ?_) (fun hc33 => ?_)
                  · have hp34 := of_decide_eq_true hc33
                    rw [if_pos hp34] at hm
                    refine W.sr ?_
                    refine WL.op rfl (Op1.assign .bool) ?_
                    refine WL.ns ?_
                    have hr35 := Option.some.inj hm
                    clear hm
                    subst hr35
                    have hm := hk27
                    try dsimp only at hm
                    have hr36 := Option.some.inj hm
                    clear hm
                    subst hr36
                    have hm := hk21
                    try dsimp only at hm
                    cases hm
                    exact W.ret1 () rfl (.tmp rfl) trivial
                  · have hp34 := of_decide_eq_false hc33
                    rw [if_neg hp34] at hm
                    refine W.skip ?_
                    refine WN.block ?_
                    refine WN.seq ?_
                    refine W.region ?_
                    refine WL.mv rfl rfl ?_
                    obtain ⟨v4, hv37, hm⟩ := bind_some hm
                    refine WL.op rfl (Op1.addC hv37 (.tmp rfl) (.int (inR64.2 (by omega)))) ?_
                    refine WL.gv rfl rfl ?_
                    refine WL.nil ?_
                    exact WN.again n28 v4 (Nat.lt_succ_self n28) hm ⟨Ent.q rfl, Ent.q rfl, Ent.q rfl, trivial⟩ trivial
                · have hp30 := of_decide_eq_false hc29
                  rw [if_neg hp30] at hm
                  refine W.exit rfl ?_
                  have hr38 := Option.some.inj hm
                  clear hm
                  subst hr38
                  have hm := hk27
                  try dsimp only at hm
                  refine WN.block ?_
                  refine WN.seq ?_
                  refine W.region ?_
                  refine WL.mv rfl rfl ?_
                  obtain ⟨v5, hv39, hm⟩ := bind_some hm
                  refine WL.op rfl (Op1.addC hv39 (.tmp rfl) (.int (inR64.2 (by omega)))) ?_
                  refine WL.gv rfl rfl ?_
                  refine WL.nil ?_
                  exact WN.again n22 v5 (Nat.lt_succ_self n22) hm ⟨Ent.q rfl, Ent.q rfl, trivial⟩ trivial
            · have hp24 := of_decide_eq_false hc23
              rw [if_neg hp24] at hm
              refine W.exit rfl ?_
              have hr40 := Option.some.inj hm
              clear hm
              subst hr40
              have hm := hk21
              try dsimp only at hm
              refine WN.seq ?_
              refine W.sr ?_
              refine WL.op rfl (Op1.assign .bool) ?_
              refine WL.ns ?_
              cases hm
              exact W.ret1 () rfl (.tmp rfl) trivial

theorem r06_May_spec (n : Nat) (u : api_Unit) (r : Bool) (hm : M.r06_May n u = some r) : FSpec Try.prog 44 [(tapi_Unit.is u)] (tB.is r) := by
  unfold M.r06_May at hm
  refine FSpec.of Try.func44 rfl rfl rfl (fun g0 => ?_)
  refine W.sr ?_
  refine WL.op rfl (Op1.box (.tmp rfl)) ?_
  refine WL.op rfl (Op1.assign .bool) ?_
  refine WL.nr ?_
  refine WL.op rfl (Op1.load ty27 (.tmp rfl)) ?_
  obtain ⟨right, hv1, hm⟩ := bind_some hm
  refine WL.op rfl (Op1.call Try.call71 (r06_Right_spec _ _ _ hv1) ⟨(.tmp rfl), trivial⟩) ?_
  refine WL.mv rfl rfl ?_
  rcases bcases (right) with hb2 | hb2
  · have hp3 := hb2
    rw [if_pos hp3] at hm
    refine WL.run rfl rfl rfl rfl hb2 rfl rfl (Op1.load ty27 (.tmp rfl)) ?_
    obtain ⟨depth, hv4, hm⟩ := bind_some hm
    refine WL.run rfl rfl rfl rfl hb2 rfl rfl (Op1.call Try.call72 (r06_Depth_spec _ _ _ hv4) ⟨(.tmp rfl), trivial⟩) ?_
    refine WL.run rfl rfl rfl rfl hb2 rfl rfl (Op1.leI (.tmp rfl) (.int (inR64.2 (by omega)))) ?_
    refine WL.op rfl (Op1.pickT (.tmp rfl) hb2 (.tmp rfl)) ?_
    refine WL.mv rfl rfl ?_
    rcases bcases (decide (depth ≤ (8 : Int))) with hb5 | hb5
    · have hp6 := of_decide_eq_true hb5
      rw [if_pos hp6] at hm
      refine WL.run rfl rfl rfl rfl hb5 rfl rfl (Op1.load ty27 (.tmp rfl)) ?_
      obtain ⟨count, hv7, hm⟩ := bind_some hm
      refine WL.run rfl rfl rfl rfl hb5 rfl rfl (Op1.call Try.call73 (r06_Count_spec _ _ _ hv7) ⟨(.tmp rfl), trivial⟩) ?_
      refine WL.run rfl rfl rfl rfl hb5 rfl rfl (Op1.leI (.tmp rfl) (.int (inR64.2 (by omega)))) ?_
      refine WL.op rfl (Op1.pickT (.tmp rfl) hb5 (.tmp rfl)) ?_
      refine WL.mv rfl rfl ?_
      rcases bcases (decide (count ≤ (1024 : Int))) with hb8 | hb8
      · have hp9 := of_decide_eq_true hb8
        rw [if_pos hp9] at hm
        refine WL.run rfl rfl rfl rfl hb8 rfl rfl (Op1.load ty27 (.tmp rfl)) ?_
        obtain ⟨ids, hv10, hm⟩ := bind_some hm
        refine WL.run rfl rfl rfl rfl hb8 rfl rfl (Op1.call Try.call74 (r06_Ids_spec _ _ _ hv10) ⟨(.tmp rfl), trivial⟩) ?_
        refine WL.op rfl (Op1.pickT (.tmp rfl) hb8 (.tmp rfl)) ?_
        refine WL.gv rfl rfl ?_
        refine WL.ns ?_
        cases hm
        exact W.ret1 () rfl (.tmp rfl) trivial
      · have hp9 := of_decide_eq_false hb8
        rw [if_neg hp9] at hm
        refine WL.pass rfl rfl rfl rfl hb8 rfl rfl ?_
        refine WL.pass rfl rfl rfl rfl hb8 rfl rfl ?_
        refine WL.op rfl (Op1.pickF (.tmp rfl) hb8 .bool) ?_
        refine WL.gv rfl rfl ?_
        refine WL.ns ?_
        cases hm
        exact W.ret1 () rfl (.tmp rfl) trivial
    · have hp6 := of_decide_eq_false hb5
      rw [if_neg hp6] at hm
      refine WL.pass rfl rfl rfl rfl hb5 rfl rfl ?_
      refine WL.pass rfl rfl rfl rfl hb5 rfl rfl ?_
      refine WL.pass rfl rfl rfl rfl hb5 rfl rfl ?_
      refine WL.op rfl (Op1.pickF (.tmp rfl) hb5 .bool) ?_
      refine WL.mv rfl rfl ?_
      refine WL.pass rfl rfl rfl rfl rfl rfl rfl ?_
      refine WL.pass rfl rfl rfl rfl rfl rfl rfl ?_
      refine WL.op rfl (Op1.pickF (.tmp rfl) rfl .bool) ?_
      refine WL.gv rfl rfl ?_
      refine WL.ns ?_
      cases hm
      exact W.ret1 () rfl (.tmp rfl) trivial
  · have hp3 := ne_of_false hb2
    rw [if_neg hp3] at hm
    refine WL.pass rfl rfl rfl rfl hb2 rfl rfl ?_
    refine WL.pass rfl rfl rfl rfl hb2 rfl rfl ?_
    refine WL.pass rfl rfl rfl rfl hb2 rfl rfl ?_
    refine WL.op rfl (Op1.pickF (.tmp rfl) hb2 .bool) ?_
    refine WL.mv rfl rfl ?_
    refine WL.pass rfl rfl rfl rfl rfl rfl rfl ?_
    refine WL.pass rfl rfl rfl rfl rfl rfl rfl ?_
    refine WL.pass rfl rfl rfl rfl rfl rfl rfl ?_
    refine WL.op rfl (Op1.pickF (.tmp rfl) rfl .bool) ?_
    refine WL.mv rfl rfl ?_
    refine WL.pass rfl rfl rfl rfl rfl rfl rfl ?_
    refine WL.pass rfl rfl rfl rfl rfl rfl rfl ?_
    refine WL.op rfl (Op1.pickF (.tmp rfl) rfl .bool) ?_
    refine WL.gv rfl rfl ?_
    refine WL.ns ?_
    cases hm
    exact W.ret1 () rfl (.tmp rfl) trivial

theorem r08_named_spec : ∀ (n : Nat) (u : api_Unit) (r : Bool), M.r08_named n u = some r → FSpec Try.prog 45 [(tapi_Unit.is u)] (tB.is r) := by
  intro n
  induction n with
  | zero => intro u r hm; cases hm
  | succ n ih =>
    intro u r hm
    rw [M.r08_named.eq_2] at hm
    refine FSpec.of Try.func45 rfl rfl rfl (fun g0 => ?_)
    refine W.sr ?_
    refine WL.op rfl (Op1.box (.tmp rfl)) ?_
    refine WL.op rfl (Op1.assign .bool) ?_
    refine WL.ns ?_
    refine W.seq ?_
    obtain ⟨s1, hs2, hk3⟩ := bind_some hm
    clear hm
    refine W.join (fun s : Bool => s = s1) (fun s => [(12, (tB.is s)), (1, (tapi_Unit.ptr u))]) (fun s => []) ?_ ?_
    · rintro v hj21
      try dsimp only at hj21
      subst hj21
      have hm := hk3
      clear hk3
      try dsimp only at hm
      change W _ _ _ _ _ _ _ [(12, (tB.is v)), (1, (tapi_Unit.ptr u))] []
      refine W.cond (.tmp rfl) (fun hc6 => ?_) (fun hc6 => ?_)
      · have hp7 := hc6
        rw [if_pos hp7] at hm
        refine W.sr ?_
        refine WL.op rfl (Op1.assign .bool) ?_
        refine WL.ns ?_
        cases hm
        exact W.ret1 () rfl (.tmp rfl) trivial
      · have hp7 := ne_of_false hc6
        rw [if_neg hp7] at hm
        refine W.skip ?_
        refine WN.seq ?_
        refine W.seq ?_
        refine W.sr ?_
        refine WL.op rfl (Op1.assign (.int (inR64.2 (by omega)))) ?_
        refine WL.ns ?_
        refine W.block ?_
        obtain ⟨s8, hs9, hk10⟩ := bind_some hm
        clear hm
        refine W.loop (fun m (s : Int) => M.r08_named_loop1 u (M.r08_named n) m s = some s8) (fun s => [(3, ((tI .i64).is s)), (1, (tapi_Unit.ptr u))]) (fun s => []) _ (0 : Int) hs9 ⟨Ent.q rfl, Ent.q rfl, trivial⟩ trivial ?_
        rintro n11 i hm
        try dsimp only at hm
        change W _ _ _ _ _ _ _ [(3, ((tI .i64).is i)), (1, (tapi_Unit.ptr u))] []
        cases n11 with
        | zero => rw [M.r08_named_loop1.eq_1] at hm; cases hm
        | succ n11 =>
          rw [M.r08_named_loop1.eq_2] at hm
          refine W.seq ?_
          refine W.sr ?_
          refine WL.mv rfl rfl ?_
          refine WL.op rfl (Op1.fieldAddr Try.underlying27 rfl (fun w => ⟨0, Try.sizeOf25 w⟩) fapi_Unit_5 (.tmp rfl)) ?_
          refine WL.op rfl (Op1.load ty25 (.tmp rfl)) ?_
          refine WL.op rfl (Op1.lenL Try.underlying25 (.tmp rfl)) ?_
          refine WL.op rfl (Op1.ltI (.tmp rfl) (.tmp rfl)) ?_
          refine WL.ns ?_
          refine W.cond (.tmp rfl) (fun hc12 => ?_) (fun hc12 => ?_)
          · have hp13 := of_decide_eq_true hc12
            rw [if_pos hp13] at hm
            refine W.skip ?_
            refine WN.seq ?_
            refine W.seq ?_
            refine W.block ?_
            refine W.sr ?_
            refine WL.op rfl (Op1.fieldAddr Try.underlying27 rfl (fun w => ⟨0, Try.sizeOf25 w⟩) fapi_Unit_5 (.tmp rfl)) ?_
            refine WL.op rfl (Op1.load ty25 (.tmp rfl)) ?_
            refine WL.mv rfl rfl ?_
            obtain ⟨v1, hv14, hm⟩ := bind_some hm
            refine WL.op rfl (Op1.idx hv14 Try.underlying25 Try.sizeOf27 (.tmp rfl) (.tmp rfl)) ?_
            refine WL.op rfl (Op1.load ty27 (.tmp rfl)) ?_
            obtain ⟨named, hv15, hm⟩ := bind_some hm
            refine WL.op rfl (Op1.call Try.call45 (ih _ _ hv15) ⟨(.tmp rfl), trivial⟩) ?_
            refine WL.op rfl (Op1.notB (.tmp rfl)) ?_
            refine WL.ns ?_
            refine W.cond (.tmp rfl) (fun hc16 => ?_) (fun hc16 => ?_)
            · have hp17 := not_pos hc16
              rw [if_pos hp17] at hm
              refine W.sr ?_
              refine WL.op rfl (Op1.assign .bool) ?_
              refine WL.ns ?_
              have hr18 := Option.some.inj hm
              clear hm
              subst hr18
              have hm := hk10
              try dsimp only at hm
              cases hm
              exact W.ret1 () rfl (.tmp rfl) trivial
            · have hp17 := not_neg hc16
              rw [if_neg hp17] at hm
              refine W.skip ?_
              refine WN.block ?_
              refine WN.seq ?_
              refine W.region ?_
              refine WL.mv rfl rfl ?_
              refine WL.lenL (s := 15) (.tmp rfl) fun hl19 => ?_
              refine WL.op rfl (Op1.addI1 (.tmp rfl) (.int (inR64.2 (by omega))) hp13 hl19) ?_
              refine WL.gv rfl rfl ?_
              refine WL.nil ?_
              exact WN.again n11 (i + 1) (Nat.lt_succ_self n11) hm ⟨Ent.q rfl, Ent.q rfl, trivial⟩ trivial
          · have hp13 := of_decide_eq_false hc12
            rw [if_neg hp13] at hm
            refine W.exit rfl ?_
            have hr20 := Option.some.inj hm
            clear hm
            subst hr20
            have hm := hk10
            try dsimp only at hm
            refine WN.seq ?_
            refine W.sr ?_
            refine WL.op rfl (Op1.assign .bool) ?_
            refine WL.ns ?_
            cases hm
            exact W.ret1 () rfl (.tmp rfl) trivial
    · have hm := hs2
      clear hs2
      refine W.region ?_
      refine WL.op rfl (Op1.fieldAddr Try.underlying27 rfl (fun w => ⟨0, Try.sizeOf3 w⟩) fapi_Unit_1 (.tmp rfl)) ?_
      refine WL.op rfl (Op1.load ty3 (.tmp rfl)) ?_
      refine WL.op rfl (Op1.neI (.tmp rfl) (.int (inR64.2 (by omega)))) ?_
      refine WL.mv rfl rfl ?_
      rcases bcases (decide (u.Kind ≠ (0 : Int))) with hb4 | hb4
      · have hp5 := of_decide_eq_true hb4
        rw [if_pos hp5] at hm
        refine WL.run rfl rfl rfl rfl hb4 rfl rfl (Op1.fieldAddr Try.underlying27 rfl (fun w => ⟨2, Try.sizeOf23 w⟩) fapi_Unit_0 (.tmp rfl)) ?_
        refine WL.run rfl rfl rfl rfl hb4 rfl rfl (Op1.load ty23 (.tmp rfl)) ?_
        refine WL.run rfl rfl rfl rfl hb4 rfl rfl (Op1.build (s := tapi_Id) (x := (⟨(0 : Int), (0 : Int), (0 : Int)⟩ : api_Id)) zapi_Id_f rfl Try.underlying23 (zapi_Id_sz _ Try.underlying23) ze23 rfl) ?_
        refine WL.run rfl rfl rfl rfl hb4 rfl rfl (Op1.eqSt (D := 2) rfl (by decide) eg23 eq23 (.tmp rfl) (.tmp rfl)) ?_
        refine WL.op rfl (Op1.pickT (.tmp rfl) hb4 (.tmp rfl)) ?_
        refine WL.nil ?_
        exact WN.meet (decide (u.Id = (⟨(0 : Int), (0 : Int), (0 : Int)⟩ : api_Id))) (Option.some.inj hm) ⟨Ent.q rfl, Ent.q rfl, trivial⟩ trivial
      · have hp5 := of_decide_eq_false hb4
        rw [if_neg hp5] at hm
        refine WL.pass rfl rfl rfl rfl hb4 rfl rfl ?_
        refine WL.pass rfl rfl rfl rfl hb4 rfl rfl ?_
        refine WL.pass rfl rfl rfl rfl hb4 rfl rfl ?_
        refine WL.pass rfl rfl rfl rfl hb4 rfl rfl ?_
        refine WL.op rfl (Op1.pickF (.tmp rfl) hb4 .bool) ?_
        refine WL.nil ?_
        exact WN.meet false (Option.some.inj hm) ⟨Ent.q rfl, Ent.q rfl, trivial⟩ trivial

theorem r08_Stands_spec (n : Nat) (u : api_Unit) (r : Bool) (hm : M.r08_Stands n u = some r) : FSpec Try.prog 30 [(tapi_Unit.is u)] (tB.is r) := by
  unfold M.r08_Stands at hm
  refine FSpec.of Try.func30 rfl rfl rfl (fun g0 => ?_)
  refine W.sr ?_
  refine WL.op rfl (Op1.box (.tmp rfl)) ?_
  refine WL.op rfl (Op1.assign .bool) ?_
  refine WL.nr ?_
  refine WL.op rfl (Op1.load ty27 (.tmp rfl)) ?_
  obtain ⟨may, hv1, hm⟩ := bind_some hm
  refine WL.op rfl (Op1.call Try.call44 (r06_May_spec _ _ _ hv1) ⟨(.tmp rfl), trivial⟩) ?_
  refine WL.mv rfl rfl ?_
  rcases bcases (may) with hb2 | hb2
  · have hp3 := hb2
    rw [if_pos hp3] at hm
    refine WL.run rfl rfl rfl rfl hb2 rfl rfl (Op1.load ty27 (.tmp rfl)) ?_
    obtain ⟨named, hv4, hm⟩ := bind_some hm
    refine WL.run rfl rfl rfl rfl hb2 rfl rfl (Op1.call Try.call45 (r08_named_spec _ _ _ hv4) ⟨(.tmp rfl), trivial⟩) ?_
    refine WL.op rfl (Op1.pickT (.tmp rfl) hb2 (.tmp rfl)) ?_
    refine WL.gv rfl rfl ?_
    refine WL.ns ?_
    cases hm
    exact W.ret1 () rfl (.tmp rfl) trivial
  · have hp3 := ne_of_false hb2
    rw [if_neg hp3] at hm
    refine WL.pass rfl rfl rfl rfl hb2 rfl rfl ?_
    refine WL.pass rfl rfl rfl rfl hb2 rfl rfl ?_
    refine WL.op rfl (Op1.pickF (.tmp rfl) hb2 .bool) ?_
    refine WL.gv rfl rfl ?_
    refine WL.ns ?_
    cases hm
    exact W.ret1 () rfl (.tmp rfl) trivial

theorem law21_book_spec (n : Nat) (u : api_Unit) (r : Bool) (hm : M.law21_book n u = some r) : FSpec Try.prog 9 [(tapi_Unit.is u)] (tB.is r) := by
  unfold M.law21_book at hm
  refine FSpec.of Try.func9 rfl rfl rfl (fun g0 => ?_)
  refine W.sr ?_
  refine WL.op rfl (Op1.box (.tmp rfl)) ?_
  refine WL.op rfl (Op1.assign .bool) ?_
  refine WL.nr ?_
  refine WL.op rfl (Op1.load ty27 (.tmp rfl)) ?_
  obtain ⟨few, hv1, hm⟩ := bind_some hm
  refine WL.op rfl (Op1.call Try.call29 (r06_Few_spec _ _ _ _ hv1) ⟨(.tmp rfl), (.int (inR64.2 (by omega))), trivial⟩) ?_
  refine WL.mv rfl rfl ?_
  rcases bcases (few) with hb2 | hb2
  · have hp3 := hb2
    rw [if_pos hp3] at hm
    refine WL.run rfl rfl rfl rfl hb2 rfl rfl (Op1.load ty27 (.tmp rfl)) ?_
    obtain ⟨stands, hv4, hm⟩ := bind_some hm
    refine WL.run rfl rfl rfl rfl hb2 rfl rfl (Op1.call Try.call30 (r08_Stands_spec _ _ _ hv4) ⟨(.tmp rfl), trivial⟩) ?_
    refine WL.op rfl (Op1.pickT (.tmp rfl) hb2 (.tmp rfl)) ?_
    refine WL.gv rfl rfl ?_
    refine WL.ns ?_
    cases hm
    exact W.ret1 () rfl (.tmp rfl) trivial
  · have hp3 := ne_of_false hb2
    rw [if_neg hp3] at hm
    refine WL.pass rfl rfl rfl rfl hb2 rfl rfl ?_
    refine WL.pass rfl rfl rfl rfl hb2 rfl rfl ?_
    refine WL.op rfl (Op1.pickF (.tmp rfl) hb2 .bool) ?_
    refine WL.gv rfl rfl ?_
    refine WL.ns ?_
    cases hm
    exact W.ret1 () rfl (.tmp rfl) trivial

theorem r17_Few_spec : ∀ (n : Nat) (x : api_Item) (r : Bool), M.r17_Few n x = some r → FSpec Try.prog 10 [(tapi_Item.is x)] (tB.is r) := by
  intro n
  induction n with
  | zero => intro x r hm; cases hm
  | succ n ih =>
    intro x r hm
    rw [M.r17_Few.eq_2] at hm
    refine FSpec.of Try.func10 rfl rfl rfl (fun g0 => ?_)
    refine W.sr ?_
    refine WL.op rfl (Op1.box (.tmp rfl)) ?_
    refine WL.op rfl (Op1.assign .bool) ?_
    refine WL.ns ?_
    refine W.seq ?_
    obtain ⟨s1, hs2, hk3⟩ := bind_some hm
    clear hm
    refine W.join (fun s : Bool => s = s1) (fun s => [(66, (tB.is s)), (1, (tapi_Item.ptr x))]) (fun s => []) ?_ ?_
    · rintro v hj100
      try dsimp only at hj100
      subst hj100
      have hm := hk3
      clear hk3
      try dsimp only at hm
      change W _ _ _ _ _ _ _ [(66, (tB.is v)), (1, (tapi_Item.ptr x))] []
      refine W.cond (.tmp rfl) (fun hc23 => ?_) (fun hc23 => ?_)
      · have hp24 := hc23
        rw [if_pos hp24] at hm
        refine W.sr ?_
        refine WL.op rfl (Op1.assign .bool) ?_
        refine WL.ns ?_
        cases hm
        exact W.ret1 () rfl (.tmp rfl) trivial
      · have hp24 := ne_of_false hc23
        rw [if_neg hp24] at hm
        refine W.skip ?_
        refine WN.seq ?_
        refine W.seq ?_
        refine W.sr ?_
        refine WL.op rfl (Op1.assign (.int (inR64.2 (by omega)))) ?_
        refine WL.ns ?_
        refine W.block ?_
        obtain ⟨s25, hs26, hk27⟩ := bind_some hm
        clear hm
        refine W.loop (fun m (s : Int) => M.r17_Few_loop1 x m s = some s25) (fun s => [(3, ((tI .i64).is s)), (1, (tapi_Item.ptr x))]) (fun s => []) _ (0 : Int) hs26 ⟨Ent.q rfl, Ent.q rfl, trivial⟩ trivial ?_
        rintro n28 i hm
        try dsimp only at hm
        change W _ _ _ _ _ _ _ [(3, ((tI .i64).is i)), (1, (tapi_Item.ptr x))] []
        cases n28 with
        | zero => rw [M.r17_Few_loop1.eq_1] at hm; cases hm
        | succ n28 =>
          rw [M.r17_Few_loop1.eq_2] at hm
          refine W.seq ?_
          refine W.sr ?_
          refine WL.mv rfl rfl ?_
          refine WL.op rfl (Op1.fieldAddr Try.underlying37 rfl (fun w => ⟨0, Try.sizeOf32 w⟩) fapi_Item_6 (.tmp rfl)) ?_
          refine WL.op rfl (Op1.load ty32 (.tmp rfl)) ?_
          refine WL.op rfl (Op1.lenL Try.underlying32 (.tmp rfl)) ?_
          refine WL.op rfl (Op1.ltI (.tmp rfl) (.tmp rfl)) ?_
          refine WL.ns ?_
          refine W.cond (.tmp rfl) (fun hc29 => ?_) (fun hc29 => ?_)
          · have hp30 := of_decide_eq_true hc29
            rw [if_pos hp30] at hm
            refine W.skip ?_
            refine WN.seq ?_
            refine W.seq ?_
            refine W.block ?_
            refine W.sr ?_
            refine WL.op rfl (Op1.fieldAddr Try.underlying37 rfl (fun w => ⟨0, Try.sizeOf32 w⟩) fapi_Item_6 (.tmp rfl)) ?_
            refine WL.op rfl (Op1.load ty32 (.tmp rfl)) ?_
            refine WL.mv rfl rfl ?_
            obtain ⟨v1, hv31, hm⟩ := bind_some hm
            refine WL.op rfl (Op1.idx hv31 Try.underlying32 Try.sizeOf9 (.tmp rfl) (.tmp rfl)) ?_
            refine WL.op rfl (Op1.load ty9 (.tmp rfl)) ?_
            refine WL.op rfl (Op1.lenS Try.underlying9 (.tmp rfl)) ?_
            refine WL.op rfl (Op1.gtI (.tmp rfl) (.int (inR64.2 (by omega)))) ?_
            refine WL.ns ?_
            refine W.cond (.tmp rfl) (fun hc32 => ?_) (fun hc32 => ?_)
            · have hp33 := of_decide_eq_true hc32
              rw [if_pos hp33] at hm
              refine W.sr ?_
              refine WL.op rfl (Op1.assign .bool) ?_
              refine WL.ns ?_
              have hr34 := Option.some.inj hm
              clear hm
              subst hr34
              have hm := hk27
              try dsimp only at hm
              cases hm
              exact W.ret1 () rfl (.tmp rfl) trivial
            · have hp33 := of_decide_eq_false hc32
              rw [if_neg hp33] at hm
              refine W.skip ?_
              refine WN.block ?_
              refine WN.seq ?_
              refine W.region ?_
              refine WL.mv rfl rfl ?_
              refine WL.lenL (s := 69) (.tmp rfl) fun hl35 => ?_
              refine WL.op rfl (Op1.addI1 (.tmp rfl) (.int (inR64.2 (by omega))) hp30 hl35) ?_
              refine WL.gv rfl rfl ?_
              refine WL.nil ?_
              exact WN.again n28 (i + 1) (Nat.lt_succ_self n28) hm ⟨Ent.q rfl, Ent.q rfl, trivial⟩ trivial
          · have hp30 := of_decide_eq_false hc29
            rw [if_neg hp30] at hm
            refine W.exit rfl ?_
            have hr36 := Option.some.inj hm
            clear hm
            subst hr36
            have hm := hk27
            try dsimp only at hm
            refine WN.seq ?_
            refine W.seq ?_
            refine W.sr ?_
            refine WL.op rfl (Op1.assign (.int (inR64.2 (by omega)))) ?_
            refine WL.ns ?_
            refine W.block ?_
            obtain ⟨s37, hs38, hk39⟩ := bind_some hm
            clear hm
            refine W.loop (fun m (s : Int) => M.r17_Few_loop2 x m s = some s37) (fun s => [(4, ((tI .i64).is s)), (1, (tapi_Item.ptr x))]) (fun s => []) _ (0 : Int) hs38 ⟨Ent.q rfl, Ent.q rfl, trivial⟩ trivial ?_
            rintro n40 i1 hm
            try dsimp only at hm
            change W _ _ _ _ _ _ _ [(4, ((tI .i64).is i1)), (1, (tapi_Item.ptr x))] []
            cases n40 with
            | zero => rw [M.r17_Few_loop2.eq_1] at hm; cases hm
            | succ n40 =>
              rw [M.r17_Few_loop2.eq_2] at hm
              refine W.seq ?_
              refine W.sr ?_
              refine WL.mv rfl rfl ?_
              refine WL.op rfl (Op1.fieldAddr Try.underlying37 rfl (fun w => ⟨0, Try.sizeOf32 w⟩) fapi_Item_7 (.tmp rfl)) ?_
              refine WL.op rfl (Op1.load ty32 (.tmp rfl)) ?_
              refine WL.op rfl (Op1.lenL Try.underlying32 (.tmp rfl)) ?_
              refine WL.op rfl (Op1.ltI (.tmp rfl) (.tmp rfl)) ?_
              refine WL.ns ?_
              refine W.cond (.tmp rfl) (fun hc41 => ?_) (fun hc41 => ?_)
              · have hp42 := of_decide_eq_true hc41
                rw [if_pos hp42] at hm
                refine W.skip ?_
                refine WN.seq ?_
                refine W.seq ?_
                refine W.block ?_
                refine W.sr ?_
                refine WL.op rfl (Op1.fieldAddr Try.underlying37 rfl (fun w => ⟨0, Try.sizeOf32 w⟩) fapi_Item_7 (.tmp rfl)) ?_
                refine WL.op rfl (Op1.load ty32 (.tmp rfl)) ?_
                refine WL.mv rfl rfl ?_
                obtain ⟨v2, hv43, hm⟩ := bind_some hm
                refine WL.op rfl (Op1.idx hv43 Try.underlying32 Try.sizeOf9 (.tmp rfl) (.tmp rfl)) ?_
                refine WL.op rfl (Op1.load ty9 (.tmp rfl)) ?_
                refine WL.op rfl (Op1.lenS Try.underlying9 (.tmp rfl)) ?_
                refine WL.op rfl (Op1.gtI (.tmp rfl) (.int (inR64.2 (by omega)))) ?_
                refine WL.ns ?_
                refine W.cond (.tmp rfl) (fun hc44 => ?_) (fun hc44 => ?_)
                · have hp45 := of_decide_eq_true hc44
                  rw [if_pos hp45] at hm
                  refine W.sr ?_
                  refine WL.op rfl (Op1.assign .bool) ?_
                  refine WL.ns ?_
                  have hr46 := Option.some.inj hm
                  clear hm
                  subst hr46
                  have hm := hk39
                  try dsimp only at hm
                  cases hm
                  exact W.ret1 () rfl (.tmp rfl) trivial
                · have hp45 := of_decide_eq_false hc44
                  rw [if_neg hp45] at hm
                  refine W.skip ?_
                  refine WN.block ?_
                  refine WN.seq ?_
                  refine W.region ?_
                  refine WL.mv rfl rfl ?_
                  refine WL.lenL (s := 83) (.tmp rfl) fun hl47 => ?_
                  refine WL.op rfl (Op1.addI1 (.tmp rfl) (.int (inR64.2 (by omega))) hp42 hl47) ?_
                  refine WL.gv rfl rfl ?_
                  refine WL.nil ?_
                  exact WN.again n40 (i1 + 1) (Nat.lt_succ_self n40) hm ⟨Ent.q rfl, Ent.q rfl, trivial⟩ trivial
              · have hp42 := of_decide_eq_false hc41
                rw [if_neg hp42] at hm
                refine W.exit rfl ?_
                have hr48 := Option.some.inj hm
                clear hm
                subst hr48
                have hm := hk39
                try dsimp only at hm
                refine WN.seq ?_
                refine W.seq ?_
                refine W.sr ?_
                refine WL.op rfl (Op1.assign (.int (inR64.2 (by omega)))) ?_
                refine WL.ns ?_
                refine W.block ?_
                obtain ⟨s49, hs50, hk51⟩ := bind_some hm
                clear hm
                refine W.loop (fun m (s : Int) => M.r17_Few_loop3 x m s = some s49) (fun s => [(5, ((tI .i64).is s)), (1, (tapi_Item.ptr x))]) (fun s => []) _ (0 : Int) hs50 ⟨Ent.q rfl, Ent.q rfl, trivial⟩ trivial ?_
                rintro n52 i2 hm
                try dsimp only at hm
                change W _ _ _ _ _ _ _ [(5, ((tI .i64).is i2)), (1, (tapi_Item.ptr x))] []
                cases n52 with
                | zero => rw [M.r17_Few_loop3.eq_1] at hm; cases hm
                | succ n52 =>
                  rw [M.r17_Few_loop3.eq_2] at hm
                  refine W.seq ?_
                  refine W.sr ?_
                  refine WL.mv rfl rfl ?_
                  refine WL.op rfl (Op1.fieldAddr Try.underlying37 rfl (fun w => ⟨0, Try.sizeOf28 w⟩) fapi_Item_1 (.tmp rfl)) ?_
                  refine WL.op rfl (Op1.load ty28 (.tmp rfl)) ?_
                  refine WL.op rfl (Op1.lenL Try.underlying28 (.tmp rfl)) ?_
                  refine WL.op rfl (Op1.ltI (.tmp rfl) (.tmp rfl)) ?_
                  refine WL.ns ?_
                  refine W.cond (.tmp rfl) (fun hc53 => ?_) (fun hc53 => ?_)
                  · have hp54 := of_decide_eq_true hc53
                    rw [if_pos hp54] at hm
                    refine W.skip ?_
                    refine WN.seq ?_
                    refine W.seq ?_
                    refine W.block ?_
                    refine W.sr ?_
                    refine WL.op rfl (Op1.fieldAddr Try.underlying37 rfl (fun w => ⟨0, Try.sizeOf28 w⟩) fapi_Item_1 (.tmp rfl)) ?_
                    refine WL.op rfl (Op1.load ty28 (.tmp rfl)) ?_
                    refine WL.mv rfl rfl ?_
                    obtain ⟨v3, hv55, hm⟩ := bind_some hm
                    refine WL.op rfl (Op1.idx hv55 Try.underlying28 Try.sizeOf63 (.tmp rfl) (.tmp rfl)) ?_
                    refine WL.op rfl (Op1.fieldAddr Try.underlying63 rfl (fun w => ⟨0, Try.sizeOf9 w⟩) fapi_Step_1 (.tmp rfl)) ?_
                    refine WL.op rfl (Op1.load ty9 (.tmp rfl)) ?_
                    refine WL.op rfl (Op1.lenS Try.underlying9 (.tmp rfl)) ?_
                    refine WL.op rfl (Op1.gtI (.tmp rfl) (.int (inR64.2 (by omega)))) ?_
                    refine WL.ns ?_
                    refine W.cond (.tmp rfl) (fun hc56 => ?_) (fun hc56 => ?_)
                    · have hp57 := of_decide_eq_true hc56
                      rw [if_pos hp57] at hm
                      refine W.sr ?_
                      refine WL.op rfl (Op1.assign .bool) ?_
                      refine WL.ns ?_
                      have hr58 := Option.some.inj hm
                      clear hm
                      subst hr58
                      have hm := hk51
                      try dsimp only at hm
                      cases hm
                      exact W.ret1 () rfl (.tmp rfl) trivial
                    · have hp57 := of_decide_eq_false hc56
                      rw [if_neg hp57] at hm
                      refine W.skip ?_
                      refine WN.block ?_
                      refine WN.seq ?_
                      refine W.region ?_
                      refine WL.mv rfl rfl ?_
                      refine WL.lenL (s := 97) (.tmp rfl) fun hl59 => ?_
                      refine WL.op rfl (Op1.addI1 (.tmp rfl) (.int (inR64.2 (by omega))) hp54 hl59) ?_
                      refine WL.gv rfl rfl ?_
                      refine WL.nil ?_
                      exact WN.again n52 (i2 + 1) (Nat.lt_succ_self n52) hm ⟨Ent.q rfl, Ent.q rfl, trivial⟩ trivial
                  · have hp54 := of_decide_eq_false hc53
                    rw [if_neg hp54] at hm
                    refine W.exit rfl ?_
                    have hr60 := Option.some.inj hm
                    clear hm
                    subst hr60
                    have hm := hk51
                    try dsimp only at hm
                    refine WN.seq ?_
                    refine W.seq ?_
                    refine W.sr ?_
                    refine WL.op rfl (Op1.assign (.int (inR64.2 (by omega)))) ?_
                    refine WL.ns ?_
                    refine W.block ?_
                    obtain ⟨s61, hs62, hk63⟩ := bind_some hm
                    clear hm
                    refine W.loop (fun m (s : Int) => M.r17_Few_loop4 x m s = some s61) (fun s => [(6, ((tI .i64).is s)), (1, (tapi_Item.ptr x))]) (fun s => []) _ (0 : Int) hs62 ⟨Ent.q rfl, Ent.q rfl, trivial⟩ trivial ?_
                    rintro n64 i3 hm
                    try dsimp only at hm
                    change W _ _ _ _ _ _ _ [(6, ((tI .i64).is i3)), (1, (tapi_Item.ptr x))] []
                    cases n64 with
                    | zero => rw [M.r17_Few_loop4.eq_1] at hm; cases hm
                    | succ n64 =>
                      rw [M.r17_Few_loop4.eq_2] at hm
                      refine W.seq ?_
                      refine W.sr ?_
                      refine WL.mv rfl rfl ?_
                      refine WL.op rfl (Op1.fieldAddr Try.underlying37 rfl (fun w => ⟨0, Try.sizeOf28 w⟩) fapi_Item_2 (.tmp rfl)) ?_
                      refine WL.op rfl (Op1.load ty28 (.tmp rfl)) ?_
                      refine WL.op rfl (Op1.lenL Try.underlying28 (.tmp rfl)) ?_
                      refine WL.op rfl (Op1.ltI (.tmp rfl) (.tmp rfl)) ?_
                      refine WL.ns ?_
                      refine W.cond (.tmp rfl) (fun hc65 => ?_) (fun hc65 => ?_)
                      · have hp66 := of_decide_eq_true hc65
                        rw [if_pos hp66] at hm
                        refine W.skip ?_
                        refine WN.seq ?_
                        refine W.seq ?_
                        refine W.block ?_
                        refine W.sr ?_
                        refine WL.op rfl (Op1.fieldAddr Try.underlying37 rfl (fun w => ⟨0, Try.sizeOf28 w⟩) fapi_Item_2 (.tmp rfl)) ?_
                        refine WL.op rfl (Op1.load ty28 (.tmp rfl)) ?_
                        refine WL.mv rfl rfl ?_
                        obtain ⟨v4, hv67, hm⟩ := bind_some hm
                        refine WL.op rfl (Op1.idx hv67 Try.underlying28 Try.sizeOf63 (.tmp rfl) (.tmp rfl)) ?_
                        refine WL.op rfl (Op1.fieldAddr Try.underlying63 rfl (fun w => ⟨0, Try.sizeOf9 w⟩) fapi_Step_1 (.tmp rfl)) ?_
                        refine WL.op rfl (Op1.load ty9 (.tmp rfl)) ?_
                        refine WL.op rfl (Op1.lenS Try.underlying9 (.tmp rfl)) ?_
                        refine WL.op rfl (Op1.gtI (.tmp rfl) (.int (inR64.2 (by omega)))) ?_
                        refine WL.ns ?_
                        refine W.cond (.tmp rfl) (fun hc68 => ?_) (fun hc68 => ?_)
                        · have hp69 := of_decide_eq_true hc68
                          rw [if_pos hp69] at hm
                          refine W.sr ?_
                          refine WL.op rfl (Op1.assign .bool) ?_
                          refine WL.ns ?_
                          have hr70 := Option.some.inj hm
                          clear hm
                          subst hr70
                          have hm := hk63
                          try dsimp only at hm
                          cases hm
                          exact W.ret1 () rfl (.tmp rfl) trivial
                        · have hp69 := of_decide_eq_false hc68
                          rw [if_neg hp69] at hm
                          refine W.skip ?_
                          refine WN.block ?_
                          refine WN.seq ?_
                          refine W.region ?_
                          refine WL.mv rfl rfl ?_
                          refine WL.lenL (s := 112) (.tmp rfl) fun hl71 => ?_
                          refine WL.op rfl (Op1.addI1 (.tmp rfl) (.int (inR64.2 (by omega))) hp66 hl71) ?_
                          refine WL.gv rfl rfl ?_
                          refine WL.nil ?_
                          exact WN.again n64 (i3 + 1) (Nat.lt_succ_self n64) hm ⟨Ent.q rfl, Ent.q rfl, trivial⟩ trivial
                      · have hp66 := of_decide_eq_false hc65
                        rw [if_neg hp66] at hm
                        refine W.exit rfl ?_
                        have hr72 := Option.some.inj hm
                        clear hm
                        subst hr72
                        have hm := hk63
                        try dsimp only at hm
                        refine WN.seq ?_
                        refine W.seq ?_
                        refine W.sr ?_
                        refine WL.op rfl (Op1.assign (.int (inR64.2 (by omega)))) ?_
                        refine WL.ns ?_
                        refine W.block ?_
                        obtain ⟨s73, hs74, hk75⟩ := bind_some hm
                        clear hm
                        refine W.loop (fun m (s : Int) => M.r17_Few_loop5 x (M.r17_Few n) m s = some s73) (fun s => [(7, ((tI .i64).is s)), (1, (tapi_Item.ptr x))]) (fun s => []) _ (0 : Int) hs74 ⟨Ent.q rfl, Ent.q rfl, trivial⟩ trivial ?_
                        rintro n76 i4 hm
                        try dsimp only at hm
                        change W _ _ _ _ _ _ _ [(7, ((tI .i64).is i4)), (1, (tapi_Item.ptr x))] []
                        cases n76 with
                        | zero => rw [M.r17_Few_loop5.eq_1] at hm; cases hm
                        | succ n76 =>
                          rw [M.r17_Few_loop5.eq_2] at hm
                          refine W.seq ?_
                          refine W.sr ?_
                          refine WL.mv rfl rfl ?_
                          refine WL.op rfl (Op1.fieldAddr Try.underlying37 rfl (fun w => ⟨0, Try.sizeOf35 w⟩) fapi_Item_15 (.tmp rfl)) ?_
                          refine WL.op rfl (Op1.load ty35 (.tmp rfl)) ?_
                          refine WL.op rfl (Op1.lenL Try.underlying35 (.tmp rfl)) ?_
                          refine WL.op rfl (Op1.ltI (.tmp rfl) (.tmp rfl)) ?_
                          refine WL.ns ?_
                          refine W.cond (.tmp rfl) (fun hc77 => ?_) (fun hc77 => ?_)
                          · have hp78 := of_decide_eq_true hc77
                            rw [if_pos hp78] at hm
                            refine W.skip ?_
                            refine WN.seq ?_
                            refine W.seq ?_
                            refine W.block ?_
                            refine W.sr ?_
                            refine WL.op rfl (Op1.fieldAddr Try.underlying37 rfl (fun w => ⟨0, Try.sizeOf35 w⟩) fapi_Item_15 (.tmp rfl)) ?_
                            refine WL.op rfl (Op1.load ty35 (.tmp rfl)) ?_
                            refine WL.mv rfl rfl ?_
                            obtain ⟨v5, hv79, hm⟩ := bind_some hm
                            refine WL.op rfl (Op1.idx hv79 Try.underlying35 Try.sizeOf37 (.tmp rfl) (.tmp rfl)) ?_
                            refine WL.op rfl (Op1.fieldAddr Try.underlying37 rfl (fun w => ⟨0, Try.sizeOf35 w⟩) fapi_Item_15 (.tmp rfl)) ?_
                            refine WL.op rfl (Op1.load ty35 (.tmp rfl)) ?_
                            refine WL.op rfl (Op1.lenL Try.underlying35 (.tmp rfl)) ?_
                            refine WL.op rfl (Op1.gtI (.tmp rfl) (.int (inR64.2 (by omega)))) ?_
                            refine WL.mv rfl rfl ?_
                            rcases bcases (decide ((0 : Int) < (v5.By.length : Int))) with hb80 | hb80
                            · have hp81 := of_decide_eq_true hb80
                              rw [if_pos hp81] at hm
                              refine WL.run rfl rfl rfl rfl hb80 rfl rfl (Op1.fieldAddr Try.underlying37 rfl (fun w => ⟨0, Try.sizeOf35 w⟩) fapi_Item_15 (.tmp rfl)) ?_
                              refine WL.run rfl rfl rfl rfl hb80 rfl rfl (Op1.load ty35 (.tmp rfl)) ?_
                              refine WL.run rfl rfl rfl rfl hb80 rfl rfl (Op1.move (.tmp rfl)) ?_
                              obtain ⟨v6, hv82, hm⟩ := bind_some hm
                              refine WL.run rfl rfl rfl rfl hb80 rfl rfl (Op1.idx hv82 Try.underlying35 Try.sizeOf37 (.tmp rfl) (.tmp rfl)) ?_
                              refine WL.run rfl rfl rfl rfl hb80 rfl rfl (Op1.fieldAddr Try.underlying37 rfl (fun w => ⟨0, Try.sizeOf35 w⟩) fapi_Item_15 (.tmp rfl)) ?_
                              refine WL.run rfl rfl rfl rfl hb80 rfl rfl (Op1.load ty35 (.tmp rfl)) ?_
                              obtain ⟨v7, hv83, hm⟩ := bind_some hm
                              refine WL.run rfl rfl rfl rfl hb80 rfl rfl (Op1.idx hv83 Try.underlying35 Try.sizeOf37 (.tmp rfl) (.int (inR64.2 (by omega)))) ?_
                              refine WL.run rfl rfl rfl rfl hb80 rfl rfl (Op1.fieldAddr Try.underlying37 rfl (fun w => ⟨0, Try.sizeOf35 w⟩) fapi_Item_15 (.tmp rfl)) ?_
                              refine WL.run rfl rfl rfl rfl hb80 rfl rfl (Op1.load ty35 (.tmp rfl)) ?_
                              refine WL.run rfl rfl rfl rfl hb80 rfl rfl (Op1.lenL Try.underlying35 (.tmp rfl)) ?_
                              refine WL.run rfl rfl rfl rfl hb80 rfl rfl (Op1.gtI (.tmp rfl) (.int (inR64.2 (by omega)))) ?_
                              refine WL.op rfl (Op1.pickT (.tmp rfl) hb80 (.tmp rfl)) ?_
                              refine WL.mv rfl rfl ?_
                              rcases bcases (decide ((0 : Int) < (v7.By.length : Int))) with hb84 | hb84
                              · have hp85 := of_decide_eq_true hb84
                                rw [if_pos hp85] at hm
                                refine WL.pass rfl rfl rfl rfl hb84 rfl rfl ?_
                                refine WL.pass rfl rfl rfl rfl hb84 rfl rfl ?_
                                refine WL.pass rfl rfl rfl rfl hb84 rfl rfl ?_
                                refine WL.pass rfl rfl rfl rfl hb84 rfl rfl ?_
                                refine WL.pass rfl rfl rfl rfl hb84 rfl rfl ?_
                                refine WL.pass rfl rfl rfl rfl hb84 rfl rfl ?_
                                refine WL.pass rfl rfl rfl rfl hb84 rfl rfl ?_
                                refine WL.op rfl (Op1.pickT (.tmp rfl) hb84 .bool) ?_
                                refine WL.ns ?_
                                refine W.condT (.tmp rfl) ?_
                                refine W.sr ?_
                                refine WL.op rfl (Op1.assign .bool) ?_
                                refine WL.ns ?_
                                have hr86 := Option.some.inj hm
                                clear hm
                                subst hr86
                                have hm := hk75
                                try dsimp only at hm
                                cases hm
                                exact W.ret1 () rfl (.tmp rfl) trivial
                              · have hp85 := of_decide_eq_false hb84
                                rw [if_neg hp85] at hm
                                refine WL.run rfl rfl rfl rfl hb84 rfl rfl (Op1.fieldAddr Try.underlying37 rfl (fun w => ⟨0, Try.sizeOf35 w⟩) fapi_Item_15 (.tmp rfl)) ?_
                                refine WL.run rfl rfl rfl rfl hb84 rfl rfl (Op1.load ty35 (.tmp rfl)) ?_
                                refine WL.run rfl rfl rfl rfl hb84 rfl rfl (Op1.move (.tmp rfl)) ?_
                                obtain ⟨v8, hv87, hm⟩ := bind_some hm
                                refine WL.run rfl rfl rfl rfl hb84 rfl rfl (Op1.idx hv87 Try.underlying35 Try.sizeOf37 (.tmp rfl) (.tmp rfl)) ?_
                                refine WL.run rfl rfl rfl rfl hb84 rfl rfl (Op1.load ty37 (.tmp rfl)) ?_
                                obtain ⟨few1, hv88, hm⟩ := bind_some hm
                                refine WL.run rfl rfl rfl rfl hb84 rfl rfl (Op1.call Try.call10 (ih _ _ hv88) ⟨(.tmp rfl), trivial⟩) ?_
                                refine WL.run rfl rfl rfl rfl hb84 rfl rfl (Op1.notB (.tmp rfl)) ?_
                                refine WL.op rfl (Op1.pickF (.tmp rfl) hb84 (.tmp rfl)) ?_
                                refine WL.ns ?_
                                refine W.cond (.tmp rfl) (fun hc89 => ?_) (fun hc89 => ?_)
                                · have hp90 := not_pos hc89
                                  rw [if_pos hp90] at hm
                                  refine W.sr ?_
                                  refine WL.op rfl (Op1.assign .bool) ?_
                                  refine WL.ns ?_
                                  have hr91 := Option.some.inj hm
                                  clear hm
                                  subst hr91
                                  have hm := hk75
                                  try dsimp only at hm
                                  cases hm
                                  exact W.ret1 () rfl (.tmp rfl) trivial
                                · have hp90 := not_neg hc89
                                  rw [if_neg hp90] at hm
                                  refine W.skip ?_
                                  refine WN.block ?_
                                  refine WN.seq ?_
                                  refine W.region ?_
                                  refine WL.mv rfl rfl ?_
                                  refine WL.lenL (s := 127) (.tmp rfl) fun hl92 => ?_
                                  refine WL.op rfl (Op1.addI1 (.tmp rfl) (.int (inR64.2 (by omega))) hp78 hl92) ?_
                                  refine WL.gv rfl rfl ?_
                                  refine WL.nil ?_
                                  exact WN.again n76 (i4 + 1) (Nat.lt_succ_self n76) hm ⟨Ent.q rfl, Ent.q rfl, trivial⟩ trivial
                            · have hp81 := of_decide_eq_false hb80
                              rw [if_neg hp81] at hm
                              refine WL.pass rfl rfl rfl rfl hb80 rfl rfl ?_
                              refine WL.pass rfl rfl rfl rfl hb80 rfl rfl ?_
                              refine WL.pass rfl rfl rfl rfl hb80 rfl rfl ?_
                              refine WL.pass rfl rfl rfl rfl hb80 rfl rfl ?_
                              refine WL.pass rfl rfl rfl rfl hb80 rfl rfl ?_
                              refine WL.pass rfl rfl rfl rfl hb80 rfl rfl ?_
                              refine WL.pass rfl rfl rfl rfl hb80 rfl rfl ?_
                              refine WL.pass rfl rfl rfl rfl hb80 rfl rfl ?_
                              refine WL.pass rfl rfl rfl rfl hb80 rfl rfl ?_
                              refine WL.pass rfl rfl rfl rfl hb80 rfl rfl ?_
                              refine WL.pass rfl rfl rfl rfl hb80 rfl rfl ?_
                              refine WL.op rfl (Op1.pickF (.tmp rfl) hb80 .bool) ?_
                              refine WL.mv rfl rfl ?_
                              refine WL.run rfl rfl rfl rfl rfl rfl rfl (Op1.fieldAddr Try.underlying37 rfl (fun w => ⟨0, Try.sizeOf35 w⟩) fapi_Item_15 (.tmp rfl)) ?_
                              refine WL.run rfl rfl rfl rfl rfl rfl rfl (Op1.load ty35 (.tmp rfl)) ?_
                              refine WL.run rfl rfl rfl rfl rfl rfl rfl (Op1.move (.tmp rfl)) ?_
                              obtain ⟨v9, hv93, hm⟩ := bind_some hm
                              refine WL.run rfl rfl rfl rfl rfl rfl rfl (Op1.idx hv93 Try.underlying35 Try.sizeOf37 (.tmp rfl) (.tmp rfl)) ?_
                              refine WL.run rfl rfl rfl rfl rfl rfl rfl (Op1.load ty37 (.tmp rfl)) ?_
                              obtain ⟨few2, hv94, hm⟩ := bind_some hm
                              refine WL.run rfl rfl rfl rfl rfl rfl rfl (Op1.call Try.call10 (ih _ _ hv94) ⟨(.tmp rfl), trivial⟩) ?_
                              refine WL.run rfl rfl rfl rfl rfl rfl rfl (Op1.notB (.tmp rfl)) ?_
                              refine WL.op rfl (Op1.pickF (.tmp rfl) rfl (.tmp rfl)) ?_
                              refine WL.ns ?_
                              refine W.cond (.tmp rfl) (fun hc95 => ?_) (fun hc95 => ?_)
                              · have hp96 := not_pos hc95
                                rw [if_pos hp96] at hm
                                refine W.sr ?_
                                refine WL.op rfl (Op1.assign .bool) ?_
                                refine WL.ns ?_
                                have hr97 := Option.some.inj hm
                                clear hm
                                subst hr97
                                have hm := hk75
                                try dsimp only at hm
                                cases hm
                                exact W.ret1 () rfl (.tmp rfl) trivial
                              · have hp96 := not_neg hc95
                                rw [if_neg hp96] at hm
                                refine W.skip ?_
                                refine WN.block ?_
                                refine WN.seq ?_
                                refine W.region ?_
                                refine WL.mv rfl rfl ?_
                                refine WL.lenL (s := 127) (.tmp rfl) fun hl98 => ?_
                                refine WL.op rfl (Op1.addI1 (.tmp rfl) (.int (inR64.2 (by omega))) hp78 hl98) ?_
                                refine WL.gv rfl rfl ?_
                                refine WL.nil ?_
                                exact WN.again n76 (i4 + 1) (Nat.lt_succ_self n76) hm ⟨Ent.q rfl, Ent.q rfl, trivial⟩ trivial
                          · have hp78 := of_decide_eq_false hc77
                            rw [if_neg hp78] at hm
                            refine W.exit rfl ?_
                            have hr99 := Option.some.inj hm
                            clear hm
                            subst hr99
                            have hm := hk75
                            try dsimp only at hm
                            refine WN.seq ?_
                            refine W.sr ?_
                            refine WL.op rfl (Op1.assign .bool) ?_
                            refine WL.ns ?_
                            cases hm
                            exact W.ret1 () rfl (.tmp rfl) trivial
    · have hm := hs2
      clear hs2
      refine W.region ?_
      refine WL.op rfl (Op1.fieldAddr Try.underlying37 rfl (fun w => ⟨0, Try.sizeOf28 w⟩) fapi_Item_1 (.tmp rfl)) ?_
      refine WL.op rfl (Op1.load ty28 (.tmp rfl)) ?_
      refine WL.op rfl (Op1.lenL Try.underlying28 (.tmp rfl)) ?_
      refine WL.op rfl (Op1.gtI (.tmp rfl) (.int (inR64.2 (by omega)))) ?_
      refine WL.mv rfl rfl ?_
      rcases bcases (decide ((12 : Int) < (x.At.length : Int))) with hb4 | hb4
      · have hp5 := of_decide_eq_true hb4
        rw [if_pos hp5] at hm
        refine WL.pass rfl rfl rfl rfl hb4 rfl rfl ?_
        refine WL.pass rfl rfl rfl rfl hb4 rfl rfl ?_
        refine WL.pass rfl rfl rfl rfl hb4 rfl rfl ?_
        refine WL.pass rfl rfl rfl rfl hb4 rfl rfl ?_
        refine WL.op rfl (Op1.pickT (.tmp rfl) hb4 .bool) ?_
        refine WL.mv rfl rfl ?_
        refine WL.pass rfl rfl rfl rfl rfl rfl rfl ?_
        refine WL.pass rfl rfl rfl rfl rfl rfl rfl ?_
        refine WL.pass rfl rfl rfl rfl rfl rfl rfl ?_
        refine WL.pass rfl rfl rfl rfl rfl rfl rfl ?_
        refine WL.op rfl (Op1.pickT (.tmp rfl) rfl .bool) ?_
        refine WL.mv rfl rfl ?_
        refine WL.pass rfl rfl rfl rfl rfl rfl rfl ?_
        refine WL.pass rfl rfl rfl rfl rfl rfl rfl ?_
        refine WL.pass rfl rfl rfl rfl rfl rfl rfl ?_
        refine WL.pass rfl rfl rfl rfl rfl rfl rfl ?_
        refine WL.op rfl (Op1.pickT (.tmp rfl) rfl .bool) ?_
        refine WL.mv rfl rfl ?_
        refine WL.pass rfl rfl rfl rfl rfl rfl rfl ?_
        refine WL.pass rfl rfl rfl rfl rfl rfl rfl ?_
        refine WL.pass rfl rfl rfl rfl rfl rfl rfl ?_
        refine WL.pass rfl rfl rfl rfl rfl rfl rfl ?_
        refine WL.op rfl (Op1.pickT (.tmp rfl) rfl .bool) ?_
        refine WL.mv rfl rfl ?_
        refine WL.pass rfl rfl rfl rfl rfl rfl rfl ?_
        refine WL.pass rfl rfl rfl rfl rfl rfl rfl ?_
        refine WL.pass rfl rfl rfl rfl rfl rfl rfl ?_
        refine WL.pass rfl rfl rfl rfl rfl rfl rfl ?_
        refine WL.op rfl (Op1.pickT (.tmp rfl) rfl .bool) ?_
        refine WL.mv rfl rfl ?_
        refine WL.pass rfl rfl rfl rfl rfl rfl rfl ?_
        refine WL.pass rfl rfl rfl rfl rfl rfl rfl ?_
        refine WL.pass rfl rfl rfl rfl rfl rfl rfl ?_
        refine WL.pass rfl rfl rfl rfl rfl rfl rfl ?_
        refine WL.pass rfl rfl rfl rfl rfl rfl rfl ?_
        refine WL.op rfl (Op1.pickT (.tmp rfl) rfl .bool) ?_
        refine WL.mv rfl rfl ?_
        refine WL.pass rfl rfl rfl rfl rfl rfl rfl ?_
        refine WL.pass rfl rfl rfl rfl rfl rfl rfl ?_
        refine WL.pass rfl rfl rfl rfl rfl rfl rfl ?_
        refine WL.pass rfl rfl rfl rfl rfl rfl rfl ?_
        refine WL.op rfl (Op1.pickT (.tmp rfl) rfl .bool) ?_
        refine WL.mv rfl rfl ?_
        refine WL.pass rfl rfl rfl rfl rfl rfl rfl ?_
        refine WL.pass rfl rfl rfl rfl rfl rfl rfl ?_
        refine WL.pass rfl rfl rfl rfl rfl rfl rfl ?_
        refine WL.pass rfl rfl rfl rfl rfl rfl rfl ?_
        refine WL.op rfl (Op1.pickT (.tmp rfl) rfl .bool) ?_
        refine WL.mv rfl rfl ?_
        refine WL.pass rfl rfl rfl rfl rfl rfl rfl ?_
        refine WL.pass rfl rfl rfl rfl rfl rfl rfl ?_
        refine WL.pass rfl rfl rfl rfl rfl rfl rfl ?_
        refine WL.pass rfl rfl rfl rfl rfl rfl rfl ?_
        refine WL.op rfl (Op1.pickT (.tmp rfl) rfl .bool) ?_
        refine WL.nil ?_
        exact WN.meet true (Option.some.inj hm) ⟨Ent.q rfl, Ent.q rfl, trivial⟩ trivial
      · have hp5 := of_decide_eq_false hb4
        rw [if_neg hp5] at hm
        refine WL.run rfl rfl rfl rfl hb4 rfl rfl (Op1.fieldAddr Try.underlying37 rfl (fun w => ⟨0, Try.sizeOf28 w⟩) fapi_Item_2 (.tmp rfl)) ?_
        refine WL.run rfl rfl rfl rfl hb4 rfl rfl (Op1.load ty28 (.tmp rfl)) ?_
        refine WL.run rfl rfl rfl rfl hb4 rfl rfl (Op1.lenL Try.underlying28 (.tmp rfl)) ?_
        refine WL.run rfl rfl rfl rfl hb4 rfl rfl (Op1.gtI (.tmp rfl) (.int (inR64.2 (by omega)))) ?_
        refine WL.op rfl (Op1.pickF (.tmp rfl) hb4 (.tmp rfl)) ?_
        refine WL.mv rfl rfl ?_
        rcases bcases (decide ((12 : Int) < (x.To.length : Int))) with hb6 | hb6
        · have hp7 := of_decide_eq_true hb6
          rw [if_pos hp7] at hm
          refine WL.pass rfl rfl rfl rfl hb6 rfl rfl ?_
          refine WL.pass rfl rfl rfl rfl hb6 rfl rfl ?_
          refine WL.pass rfl rfl rfl rfl hb6 rfl rfl ?_
          refine WL.pass rfl rfl rfl rfl hb6 rfl rfl ?_
          refine WL.op rfl (Op1.pickT (.tmp rfl) hb6 .bool) ?_
          refine WL.mv rfl rfl ?_
          refine WL.pass rfl rfl rfl rfl rfl rfl rfl ?_
          refine WL.pass rfl rfl rfl rfl rfl rfl rfl ?_
          refine WL.pass rfl rfl rfl rfl rfl rfl rfl ?_
          refine WL.pass rfl rfl rfl rfl rfl rfl rfl ?_
          refine WL.op rfl (Op1.pickT (.tmp rfl) rfl .bool) ?_
          refine WL.mv rfl rfl ?_
          refine WL.pass rfl rfl rfl rfl rfl rfl rfl ?_
          refine WL.pass rfl rfl rfl rfl rfl rfl rfl ?_
          refine WL.pass rfl rfl rfl rfl rfl rfl rfl ?_
          refine WL.pass rfl rfl rfl rfl rfl rfl rfl ?_
          refine WL.op rfl (Op1.pickT (.tmp rfl) rfl .bool) ?_
          refine WL.mv rfl rfl ?_
          refine WL.pass rfl rfl rfl rfl rfl rfl rfl ?_
          refine WL.pass rfl rfl rfl rfl rfl rfl rfl ?_
          refine WL.pass rfl rfl rfl rfl rfl rfl rfl ?_
          refine WL.pass rfl rfl rfl rfl rfl rfl rfl ?_
          refine WL.op rfl (Op1.pickT (.tmp rfl) rfl .bool) ?_
          refine WL.mv rfl rfl ?_
          refine WL.pass rfl rfl rfl rfl rfl rfl rfl ?_
          refine WL.pass rfl rfl rfl rfl rfl rfl rfl ?_
          refine WL.pass rfl rfl rfl rfl rfl rfl rfl ?_
          refine WL.pass rfl rfl rfl rfl rfl rfl rfl ?_
          refine WL.pass rfl rfl rfl rfl rfl rfl rfl ?_
          refine WL.op rfl (Op1.pickT (.tmp rfl) rfl .bool) ?_
          refine WL.mv rfl rfl ?_
          refine WL.pass rfl rfl rfl rfl rfl rfl rfl ?_
          refine WL.pass rfl rfl rfl rfl rfl rfl rfl ?_
          refine WL.pass rfl rfl rfl rfl rfl rfl rfl ?_
          refine WL.pass rfl rfl rfl rfl rfl rfl rfl ?_
          refine WL.op rfl (Op1.pickT (.tmp rfl) rfl .bool) ?_
          refine WL.mv rfl rfl ?_
          refine WL.pass rfl rfl rfl rfl rfl rfl rfl ?_
          refine WL.pass rfl rfl rfl rfl rfl rfl rfl ?_
          refine WL.pass rfl rfl rfl rfl rfl rfl rfl ?_
          refine WL.pass rfl rfl rfl rfl rfl rfl rfl ?_
          refine WL.op rfl (Op1.pickT (.tmp rfl) rfl .bool) ?_
          refine WL.mv rfl rfl ?_
          refine WL.pass rfl rfl rfl rfl rfl rfl rfl ?_
          refine WL.pass rfl rfl rfl rfl rfl rfl rfl ?_
          refine WL.pass rfl rfl rfl rfl rfl rfl rfl ?_
          refine WL.pass rfl rfl rfl rfl rfl rfl rfl ?_
          refine WL.op rfl (Op1.pickT (.tmp rfl) rfl .bool) ?_
          refine WL.nil ?_
          exact WN.meet true (Option.some.inj hm) ⟨Ent.q rfl, Ent.q rfl, trivial⟩ trivial
        · have hp7 := of_decide_eq_false hb6
          rw [if_neg hp7] at hm
          refine WL.run rfl rfl rfl rfl hb6 rfl rfl (Op1.fieldAddr Try.underlying37 rfl (fun w => ⟨0, Try.sizeOf32 w⟩) fapi_Item_6 (.tmp rfl)) ?_
          refine WL.run rfl rfl rfl rfl hb6 rfl rfl (Op1.load ty32 (.tmp rfl)) ?_
          refine WL.run rfl rfl rfl rfl hb6 rfl rfl (Op1.lenL Try.underlying32 (.tmp rfl)) ?_
          refine WL.run rfl rfl rfl rfl hb6 rfl rfl (Op1.gtI (.tmp rfl) (.int (inR64.2 (by omega)))) ?_
          refine WL.op rfl (Op1.pickF (.tmp rfl) hb6 (.tmp rfl)) ?_
          refine WL.mv rfl rfl ?_
          rcases bcases (decide ((300 : Int) < (x.Old.length : Int))) with hb8 | hb8
          · have hp9 := of_decide_eq_true hb8
            rw [if_pos hp9] at hm
            refine WL.pass rfl rfl rfl rfl hb8 rfl rfl ?_
            refine WL.pass rfl rfl rfl rfl hb8 rfl rfl ?_
            refine WL.pass rfl rfl rfl rfl hb8 rfl rfl ?_
            refine WL.pass rfl rfl rfl rfl hb8 rfl rfl ?_
            refine WL.op rfl (Op1.pickT (.tmp rfl) hb8 .bool) ?_
            refine WL.mv rfl rfl ?_
            refine WL.pass rfl rfl rfl rfl rfl rfl rfl ?_
            refine WL.pass rfl rfl rfl rfl rfl rfl rfl ?_
            refine WL.pass rfl rfl rfl rfl rfl rfl rfl ?_
            refine WL.pass rfl rfl rfl rfl rfl rfl rfl ?_
            refine WL.op rfl (Op1.pickT (.tmp rfl) rfl .bool) ?_
            refine WL.mv rfl rfl ?_
            refine WL.pass rfl rfl rfl rfl rfl rfl rfl ?_
            refine WL.pass rfl rfl rfl rfl rfl rfl rfl ?_
            refine WL.pass rfl rfl rfl rfl rfl rfl rfl ?_
            refine WL.pass rfl rfl rfl rfl rfl rfl rfl ?_
            refine WL.op rfl (Op1.pickT (.tmp rfl) rfl .bool) ?_
            refine WL.mv rfl rfl ?_
            refine WL.pass rfl rfl rfl rfl rfl rfl rfl ?_
            refine WL.pass rfl rfl rfl rfl rfl rfl rfl ?_
            refine WL.pass rfl rfl rfl rfl rfl rfl rfl ?_
            refine WL.pass rfl rfl rfl rfl rfl rfl rfl ?_
            refine WL.pass rfl rfl rfl rfl rfl rfl rfl ?_
            refine WL.op rfl (Op1.pickT (.tmp rfl) rfl .bool) ?_
            refine WL.mv rfl rfl ?_
            refine WL.pass rfl rfl rfl rfl rfl rfl rfl ?_
            refine WL.pass rfl rfl rfl rfl rfl rfl rfl ?_
            refine WL.pass rfl rfl rfl rfl rfl rfl rfl ?_
            refine WL.pass rfl rfl rfl rfl rfl rfl rfl ?_
            refine WL.op rfl (Op1.pickT (.tmp rfl) rfl .bool) ?_
            refine WL.mv rfl rfl ?_
            refine WL.pass rfl rfl rfl rfl rfl rfl rfl ?_
            refine WL.pass rfl rfl rfl rfl rfl rfl rfl ?_
            refine WL.pass rfl rfl rfl rfl rfl rfl rfl ?_
            refine WL.pass rfl rfl rfl rfl rfl rfl rfl ?_
            refine WL.op rfl (Op1.pickT (.tmp rfl) rfl .bool) ?_
            refine WL.mv rfl rfl ?_
            refine WL.pass rfl rfl rfl rfl rfl rfl rfl ?_
            refine WL.pass rfl rfl rfl rfl rfl rfl rfl ?_
            refine WL.pass rfl rfl rfl rfl rfl rfl rfl ?_
            refine WL.pass rfl rfl rfl rfl rfl rfl rfl ?_
            refine WL.op rfl (Op1.pickT (.tmp rfl) rfl .bool) ?_
            refine WL.nil ?_
            exact WN.meet true (Option.some.inj hm) ⟨Ent.q rfl, Ent.q rfl, trivial⟩ trivial
          · have hp9 := of_decide_eq_false hb8
            rw [if_neg hp9] at hm
            refine WL.run rfl rfl rfl rfl hb8 rfl rfl (Op1.fieldAddr Try.underlying37 rfl (fun w => ⟨0, Try.sizeOf32 w⟩) fapi_Item_7 (.tmp rfl)) ?_
            refine WL.run rfl rfl rfl rfl hb8 rfl rfl (Op1.load ty32 (.tmp rfl)) ?_
            refine WL.run rfl rfl rfl rfl hb8 rfl rfl (Op1.lenL Try.underlying32 (.tmp rfl)) ?_
            refine WL.run rfl rfl rfl rfl hb8 rfl rfl (Op1.gtI (.tmp rfl) (.int (inR64.2 (by omega)))) ?_
            refine WL.op rfl (Op1.pickF (.tmp rfl) hb8 (.tmp rfl)) ?_
            refine WL.mv rfl rfl ?_
            rcases bcases (decide ((300 : Int) < (x.New.length : Int))) with hb10 | hb10
            · have hp11 := of_decide_eq_true hb10
              rw [if_pos hp11] at hm
              refine WL.pass rfl rfl rfl rfl hb10 rfl rfl ?_
              refine WL.pass rfl rfl rfl rfl hb10 rfl rfl ?_
              refine WL.pass rfl rfl rfl rfl hb10 rfl rfl ?_
              refine WL.pass rfl rfl rfl rfl hb10 rfl rfl ?_
              refine WL.op rfl (Op1.pickT (.tmp rfl) hb10 .bool) ?_
              refine WL.mv rfl rfl ?_
              refine WL.pass rfl rfl rfl rfl rfl rfl rfl ?_
              refine WL.pass rfl rfl rfl rfl rfl rfl rfl ?_
              refine WL.pass rfl rfl rfl rfl rfl rfl rfl ?_
              refine WL.pass rfl rfl rfl rfl rfl rfl rfl ?_
              refine WL.op rfl (Op1.pickT (.tmp rfl) rfl .bool) ?_
              refine WL.mv rfl rfl ?_
              refine WL.pass rfl rfl rfl rfl rfl rfl rfl ?_
              refine WL.pass rfl rfl rfl rfl rfl rfl rfl ?_
              refine WL.pass rfl rfl rfl rfl rfl rfl rfl ?_
              refine WL.pass rfl rfl rfl rfl rfl rfl rfl ?_
              refine WL.pass rfl rfl rfl rfl rfl rfl rfl ?_
              refine WL.op rfl (Op1.pickT (.tmp rfl) rfl .bool) ?_
              refine WL.mv rfl rfl ?_
              refine WL.pass rfl rfl rfl rfl rfl rfl rfl ?_
              refine WL.pass rfl rfl rfl rfl rfl rfl rfl ?_
              refine WL.pass rfl rfl rfl rfl rfl rfl rfl ?_
              refine WL.pass rfl rfl rfl rfl rfl rfl rfl ?_
              refine WL.op rfl (Op1.pickT (.tmp rfl) rfl .bool) ?_
              refine WL.mv rfl rfl ?_
              refine WL.pass rfl rfl rfl rfl rfl rfl rfl ?_
              refine WL.pass rfl rfl rfl rfl rfl rfl rfl ?_
              refine WL.pass rfl rfl rfl rfl rfl rfl rfl ?_
              refine WL.pass rfl rfl rfl rfl rfl rfl rfl ?_
              refine WL.op rfl (Op1.pickT (.tmp rfl) rfl .bool) ?_
              refine WL.mv rfl rfl ?_
              refine WL.pass rfl rfl rfl rfl rfl rfl rfl ?_
              refine WL.pass rfl rfl rfl rfl rfl rfl rfl ?_
              refine WL.pass rfl rfl rfl rfl rfl rfl rfl ?_
              refine WL.pass rfl rfl rfl rfl rfl rfl rfl ?_
              refine WL.op rfl (Op1.pickT (.tmp rfl) rfl .bool) ?_
              refine WL.nil ?_
              exact WN.meet true (Option.some.inj hm) ⟨Ent.q rfl, Ent.q rfl, trivial⟩ trivial
            · have hp11 := of_decide_eq_false hb10
              rw [if_neg hp11] at hm
              refine WL.run rfl rfl rfl rfl hb10 rfl rfl (Op1.fieldAddr Try.underlying37 rfl (fun w => ⟨0, Try.sizeOf9 w⟩) fapi_Item_8 (.tmp rfl)) ?_
              refine WL.run rfl rfl rfl rfl hb10 rfl rfl (Op1.load ty9 (.tmp rfl)) ?_
              refine WL.run rfl rfl rfl rfl hb10 rfl rfl (Op1.lenS Try.underlying9 (.tmp rfl)) ?_
              refine WL.run rfl rfl rfl rfl hb10 rfl rfl (Op1.gtI (.tmp rfl) (.int (inR64.2 (by omega)))) ?_
              refine WL.op rfl (Op1.pickF (.tmp rfl) hb10 (.tmp rfl)) ?_
              refine WL.mv rfl rfl ?_
              rcases bcases (decide ((100 : Int) < (x.Label.length : Int))) with hb12 | hb12
              · have hp13 := of_decide_eq_true hb12
                rw [if_pos hp13] at hm
                refine WL.pass rfl rfl rfl rfl hb12 rfl rfl ?_
                refine WL.pass rfl rfl rfl rfl hb12 rfl rfl ?_
                refine WL.pass rfl rfl rfl rfl hb12 rfl rfl ?_
                refine WL.pass rfl rfl rfl rfl hb12 rfl rfl ?_
                refine WL.op rfl (Op1.pickT (.tmp rfl) hb12 .bool) ?_
                refine WL.mv rfl rfl ?_
                refine WL.pass rfl rfl rfl rfl rfl rfl rfl ?_
                refine WL.pass rfl rfl rfl rfl rfl rfl rfl ?_
                refine WL.pass rfl rfl rfl rfl rfl rfl rfl ?_
                refine WL.pass rfl rfl rfl rfl rfl rfl rfl ?_
                refine WL.pass rfl rfl rfl rfl rfl rfl rfl ?_
                refine WL.op rfl (Op1.pickT (.tmp rfl) rfl .bool) ?_
                refine WL.mv rfl rfl ?_
                refine WL.pass rfl rfl rfl rfl rfl rfl rfl ?_
                refine WL.pass rfl rfl rfl rfl rfl rfl rfl ?_
                refine WL.pass rfl rfl rfl rfl rfl rfl rfl ?_
                refine WL.pass rfl rfl rfl rfl rfl rfl rfl ?_
                refine WL.op rfl (Op1.pickT (.tmp rfl) rfl .bool) ?_
                refine WL.mv rfl rfl ?_
                refine WL.pass rfl rfl rfl rfl rfl rfl rfl ?_
                refine WL.pass rfl rfl rfl rfl rfl rfl rfl ?_
                refine WL.pass rfl rfl rfl rfl rfl rfl rfl ?_
                refine WL.pass rfl rfl rfl rfl rfl rfl rfl ?_
                refine WL.op rfl (Op1.pickT (.tmp rfl) rfl .bool) ?_
                refine WL.mv rfl rfl ?_
                refine WL.pass rfl rfl rfl rfl rfl rfl rfl ?_
                refine WL.pass rfl rfl rfl rfl rfl rfl rfl ?_
                refine WL.pass rfl rfl rfl rfl rfl rfl rfl ?_
                refine WL.pass rfl rfl rfl rfl rfl rfl rfl ?_
                refine WL.op rfl (Op1.pickT (.tmp rfl) rfl .bool) ?_
                refine WL.nil ?_
                exact WN.meet true (Option.some.inj hm) ⟨Ent.q rfl, Ent.q rfl, trivial⟩ trivial
              · have hp13 := of_decide_eq_false hb12
                rw [if_neg hp13] at hm
                refine WL.run rfl rfl rfl rfl hb12 rfl rfl (Op1.fieldAddr Try.underlying37 rfl (fun w => ⟨0, Try.sizeOf9 w⟩) fapi_Item_9 (.tmp rfl)) ?_
                refine WL.run rfl rfl rfl rfl hb12 rfl rfl (Op1.load ty9 (.tmp rfl)) ?_
                refine WL.run rfl rfl rfl rfl hb12 rfl rfl (Op1.lenS Try.underlying9 (.tmp rfl)) ?_
                refine WL.run rfl rfl rfl rfl hb12 rfl rfl (Op1.gtI (.tmp rfl) (.int (inR64.2 (by omega)))) ?_
                refine WL.op rfl (Op1.pickF (.tmp rfl) hb12 (.tmp rfl)) ?_
                refine WL.mv rfl rfl ?_
                rcases bcases (decide ((100 : Int) < (x.For.length : Int))) with hb14 | hb14
                · have hp15 := of_decide_eq_true hb14
                  rw [if_pos hp15] at hm
                  refine WL.pass rfl rfl rfl rfl hb14 rfl rfl ?_
                  refine WL.pass rfl rfl rfl rfl hb14 rfl rfl ?_
                  refine WL.pass rfl rfl rfl rfl hb14 rfl rfl ?_
                  refine WL.pass rfl rfl rfl rfl hb14 rfl rfl ?_
                  refine WL.pass rfl rfl rfl rfl hb14 rfl rfl ?_
                  refine WL.op rfl (Op1.pickT (.tmp rfl) hb14 .bool) ?_
                  refine WL.mv rfl rfl ?_
                  refine WL.pass rfl rfl rfl rfl rfl rfl rfl ?_
                  refine WL.pass rfl rfl rfl rfl rfl rfl rfl ?_
                  refine WL.pass rfl rfl rfl rfl rfl rfl rfl ?_
                  refine WL.pass rfl rfl rfl rfl rfl rfl rfl ?_
                  refine WL.op rfl (Op1.pickT (.tmp rfl) rfl .bool) ?_
                  refine WL.mv rfl rfl ?_
                  refine WL.pass rfl rfl rfl rfl rfl rfl rfl ?_
                  refine WL.pass rfl rfl rfl rfl rfl rfl rfl ?_
                  refine WL.pass rfl rfl rfl rfl rfl rfl rfl ?_
                  refine WL.pass rfl rfl rfl rfl rfl rfl rfl ?_
                  refine WL.op rfl (Op1.pickT (.tmp rfl) rfl .bool) ?_
                  refine WL.mv rfl rfl ?_
                  refine WL.pass rfl rfl rfl rfl rfl rfl rfl ?_
                  refine WL.pass rfl rfl rfl rfl rfl rfl rfl ?_
                  refine WL.pass rfl rfl rfl rfl rfl rfl rfl ?_
                  refine WL.pass rfl rfl rfl rfl rfl rfl rfl ?_
                  refine WL.op rfl (Op1.pickT (.tmp rfl) rfl .bool) ?_
                  refine WL.nil ?_
                  exact WN.meet true (Option.some.inj hm) ⟨Ent.q rfl, Ent.q rfl, trivial⟩ trivial
                · have hp15 := of_decide_eq_false hb14
                  rw [if_neg hp15] at hm
                  refine WL.run rfl rfl rfl rfl hb14 rfl rfl (Op1.fieldAddr Try.underlying37 rfl (fun w => ⟨2, Try.sizeOf34 w⟩) fapi_Item_10 (.tmp rfl)) ?_
                  refine WL.run rfl rfl rfl rfl hb14 rfl rfl (Op1.fieldAddr Try.underlying34 rfl (fun w => ⟨0, Try.sizeOf9 w⟩) fapi_Start_2 (.tmp rfl)) ?_
                  refine WL.run rfl rfl rfl rfl hb14 rfl rfl (Op1.load ty9 (.tmp rfl)) ?_
                  refine WL.run rfl rfl rfl rfl hb14 rfl rfl (Op1.lenS Try.underlying9 (.tmp rfl)) ?_
                  refine WL.run rfl rfl rfl rfl hb14 rfl rfl (Op1.gtI (.tmp rfl) (.int (inR64.2 (by omega)))) ?_
                  refine WL.op rfl (Op1.pickF (.tmp rfl) hb14 (.tmp rfl)) ?_
                  refine WL.mv rfl rfl ?_
                  rcases bcases (decide ((100 : Int) < (x.Start.Event.length : Int))) with hb16 | hb16
                  · have hp17 := of_decide_eq_true hb16
                    rw [if_pos hp17] at hm
                    refine WL.pass rfl rfl rfl rfl hb16 rfl rfl ?_
                    refine WL.pass rfl rfl rfl rfl hb16 rfl rfl ?_
                    refine WL.pass rfl rfl rfl rfl hb16 rfl rfl ?_
                    refine WL.pass rfl rfl rfl rfl hb16 rfl rfl ?_
                    refine WL.op rfl (Op1.pickT (.tmp rfl) hb16 .bool) ?_
                    refine WL.mv rfl rfl ?_
                    refine WL.pass rfl rfl rfl rfl rfl rfl rfl ?_
                    refine WL.pass rfl rfl rfl rfl rfl rfl rfl ?_
                    refine WL.pass rfl rfl rfl rfl rfl rfl rfl ?_
                    refine WL.pass rfl rfl rfl rfl rfl rfl rfl ?_
                    refine WL.op rfl (Op1.pickT (.tmp rfl) rfl .bool) ?_
                    refine WL.mv rfl rfl ?_
                    refine WL.pass rfl rfl rfl rfl rfl rfl rfl ?_
                    refine WL.pass rfl rfl rfl rfl rfl rfl rfl ?_
                    refine WL.pass rfl rfl rfl rfl rfl rfl rfl ?_
                    refine WL.pass rfl rfl rfl rfl rfl rfl rfl ?_
                    refine WL.op rfl (Op1.pickT (.tmp rfl) rfl .bool) ?_
                    refine WL.nil ?_
                    exact WN.meet true (Option.some.inj hm) ⟨Ent.q rfl, Ent.q rfl, trivial⟩ trivial
                  · have hp17 := of_decide_eq_false hb16
                    rw [if_neg hp17] at hm
                    refine WL.run rfl rfl rfl rfl hb16 rfl rfl (Op1.fieldAddr Try.underlying37 rfl (fun w => ⟨0, Try.sizeOf9 w⟩) fapi_Item_14 (.tmp rfl)) ?_
                    refine WL.run rfl rfl rfl rfl hb16 rfl rfl (Op1.load ty9 (.tmp rfl)) ?_
                    refine WL.run rfl rfl rfl rfl hb16 rfl rfl (Op1.lenS Try.underlying9 (.tmp rfl)) ?_
                    refine WL.run rfl rfl rfl rfl hb16 rfl rfl (Op1.gtI (.tmp rfl) (.int (inR64.2 (by omega)))) ?_
                    refine WL.op rfl (Op1.pickF (.tmp rfl) hb16 (.tmp rfl)) ?_
                    refine WL.mv rfl rfl ?_
                    rcases bcases (decide ((100 : Int) < (x.Event.length : Int))) with hb18 | hb18
                    · have hp19 := of_decide_eq_true hb18
                      rw [if_pos hp19] at hm
                      refine WL.pass rfl rfl rfl rfl hb18 rfl rfl ?_
                      refine WL.pass rfl rfl rfl rfl hb18 rfl rfl ?_
                      refine WL.pass rfl rfl rfl rfl hb18 rfl rfl ?_
                      refine WL.pass rfl rfl rfl rfl hb18 rfl rfl ?_
                      refine WL.op rfl (Op1.pickT (.tmp rfl) hb18 .bool) ?_
                      refine WL.mv rfl rfl ?_
                      refine WL.pass rfl rfl rfl rfl rfl rfl rfl ?_
                      refine WL.pass rfl rfl rfl rfl rfl rfl rfl ?_
                      refine WL.pass rfl rfl rfl rfl rfl rfl rfl ?_
                      refine WL.pass rfl rfl rfl rfl rfl rfl rfl ?_
                      refine WL.op rfl (Op1.pickT (.tmp rfl) rfl .bool) ?_
                      refine WL.nil ?_
                      exact WN.meet true (Option.some.inj hm) ⟨Ent.q rfl, Ent.q rfl, trivial⟩ trivial
                    · have hp19 := of_decide_eq_false hb18
                      rw [if_neg hp19] at hm
                      refine WL.run rfl rfl rfl rfl hb18 rfl rfl (Op1.fieldAddr Try.underlying37 rfl (fun w => ⟨0, Try.sizeOf35 w⟩) fapi_Item_15 (.tmp rfl)) ?_
                      refine WL.run rfl rfl rfl rfl hb18 rfl rfl (Op1.load ty35 (.tmp rfl)) ?_
                      refine WL.run rfl rfl rfl rfl hb18 rfl rfl (Op1.lenL Try.underlying35 (.tmp rfl)) ?_
                      refine WL.run rfl rfl rfl rfl hb18 rfl rfl (Op1.gtI (.tmp rfl) (.int (inR64.2 (by omega)))) ?_
                      refine WL.op rfl (Op1.pickF (.tmp rfl) hb18 (.tmp rfl)) ?_
                      refine WL.mv rfl rfl ?_
                      rcases bcases (decide ((2 : Int) < (x.By.length : Int))) with hb20 | hb20
                      · have hp21 := of_decide_eq_true hb20
                        rw [if_pos hp21] at hm
                        refine WL.pass rfl rfl rfl rfl hb20 rfl rfl ?_
                        refine WL.pass rfl rfl rfl rfl hb20 rfl rfl ?_
                        refine WL.pass rfl rfl rfl rfl hb20 rfl rfl ?_
                        refine WL.pass rfl rfl rfl rfl hb20 rfl rfl ?_
                        refine WL.op rfl (Op1.pickT (.tmp rfl) hb20 .bool) ?_
                        refine WL.nil ?_
                        exact WN.meet true (Option.some.inj hm) ⟨Ent.q rfl, Ent.q rfl, trivial⟩ trivial
                      · have hp21 := of_decide_eq_false hb20
                        rw [if_neg hp21] at hm
                        refine WL.run rfl rfl rfl rfl hb20 rfl rfl (Op1.fieldAddr Try.underlying37 rfl (fun w => ⟨7, Try.sizeOf27 w⟩) fapi_Item_5 (.tmp rfl)) ?_
                        refine WL.run rfl rfl rfl rfl hb20 rfl rfl (Op1.load ty27 (.tmp rfl)) ?_
                        obtain ⟨few, hv22, hm⟩ := bind_some hm
                        refine WL.run rfl rfl rfl rfl hb20 rfl rfl (Op1.call Try.call29 (r06_Few_spec _ _ _ _ hv22) ⟨(.tmp rfl), (.int (inR64.2 (by omega))), trivial⟩) ?_
                        refine WL.run rfl rfl rfl rfl hb20 rfl rfl (Op1.notB (.tmp rfl)) ?_
                        refine WL.op rfl (Op1.pickF (.tmp rfl) hb20 (.tmp rfl)) ?_
                        refine WL.nil ?_
                        exact WN.meet (!few) (Option.some.inj hm) ⟨Ent.q rfl, Ent.q rfl, trivial⟩ trivial

theorem r07_book_spec (s0_ : api_Step) (r : Bool) (hm : M.r07_book s0_ = some r) : FSpec Try.prog 55 [(tapi_Step.is s0_)] (tB.is r) := by
  unfold M.r07_book at hm
  refine FSpec.of Try.func55 rfl rfl rfl (fun g0 => ?_)
  refine W.sr ?_
  refine WL.op rfl (Op1.box (.tmp rfl)) ?_
  refine WL.op rfl (Op1.assign .bool) ?_
  refine WL.nr ?_
  refine WL.op rfl (Op1.fieldAddr Try.underlying63 rfl (fun w => ⟨0, Try.sizeOf3 w⟩) fapi_Step_0 (.tmp rfl)) ?_
  refine WL.op rfl (Op1.load ty3 (.tmp rfl)) ?_
  refine WL.op rfl (Op1.eqI (.tmp rfl) (.int (inR64.2 (by omega)))) ?_
  refine WL.mv rfl rfl ?_
  rcases bcases (decide (s0_.Kind = (0 : Int))) with hb1 | hb1
  · have hp2 := of_decide_eq_true hb1
    rw [if_pos hp2] at hm
    refine WL.run rfl rfl rfl rfl hb1 rfl rfl (Op1.fieldAddr Try.underlying63 rfl (fun w => ⟨0, Try.sizeOf9 w⟩) fapi_Step_1 (.tmp rfl)) ?_
    refine WL.run rfl rfl rfl rfl hb1 rfl rfl (Op1.load ty9 (.tmp rfl)) ?_
    refine WL.run rfl rfl rfl rfl hb1 rfl rfl (Op1.eqS (.tmp rfl) (.str rfl (by decide))) ?_
    refine WL.op rfl (Op1.pickT (.tmp rfl) hb1 (.tmp rfl)) ?_
    refine WL.gv rfl rfl ?_
    refine WL.ns ?_
    cases hm
    exact W.ret1 () rfl (.tmp rfl) trivial
  · have hp2 := of_decide_eq_false hb1
    rw [if_neg hp2] at hm
    refine WL.pass rfl rfl rfl rfl hb1 rfl rfl ?_
    refine WL.pass rfl rfl rfl rfl hb1 rfl rfl ?_
    refine WL.pass rfl rfl rfl rfl hb1 rfl rfl ?_
    refine WL.op rfl (Op1.pickF (.tmp rfl) hb1 .bool) ?_
    refine WL.gv rfl rfl ?_
    refine WL.ns ?_
    cases hm
    exact W.ret1 () rfl (.tmp rfl) trivial

theorem r07_May_spec (n : Nat) (p : List api_Step) (r : Bool) (hm : M.r07_May n p = some r) : FSpec Try.prog 54 [((tL tapi_Step).is p)] (tB.is r) := by
  unfold M.r07_May at hm
  refine FSpec.of Try.func54 rfl rfl rfl (fun g0 => ?_)
  refine W.sr ?_
  refine WL.op rfl (Op1.assign .bool) ?_
  refine WL.ns ?_
  refine W.seq ?_
  refine W.sr ?_
  refine WL.mv rfl rfl ?_
  refine WL.op rfl (Op1.lenL Try.underlying28 (.tmp rfl)) ?_
  refine WL.op rfl (Op1.gtI (.tmp rfl) (.int (inR64.2 (by omega)))) ?_
  refine WL.ns ?_
  refine W.cond (.tmp rfl) (fun hc1 => ?_) (fun hc1 => ?_)
  · have hp2 := of_decide_eq_true hc1
    rw [if_pos hp2] at hm
    refine W.sr ?_
    refine WL.op rfl (Op1.assign .bool) ?_
    refine WL.ns ?_
    cases hm
    exact W.ret1 () rfl (.tmp rfl) trivial
  · have hp2 := of_decide_eq_false hc1
    rw [if_neg hp2] at hm
    refine W.skip ?_
    refine WN.seq ?_
    refine W.seq ?_
    refine W.sr ?_
    refine WL.op rfl (Op1.assign (.int (inR64.2 (by omega)))) ?_
    refine WL.ns ?_
    refine W.block ?_
    obtain ⟨s3, hs4, hk5⟩ := bind_some hm
    clear hm
    refine W.loop (fun m (s : Int) => M.r07_May_loop1 p m s = some s3) (fun s => [(3, ((tI .i64).is s)), (0, ((tL tapi_Step).is p))]) (fun s => []) _ (0 : Int) hs4 ⟨Ent.q rfl, Ent.q rfl, trivial⟩ trivial ?_
    rintro n6 i hm
    try dsimp only at hm
    change W _ _ _ _ _ _ _ [(3, ((tI .i64).is i)), (0, ((tL tapi_Step).is p))] []
    cases n6 with
    | zero => rw [M.r07_May_loop1.eq_1] at hm; cases hm
    | succ n6 =>
      rw [M.r07_May_loop1.eq_2] at hm
      refine W.seq ?_
      refine W.sr ?_
      refine WL.mv rfl rfl ?_
      refine WL.mv rfl rfl ?_
      refine WL.op rfl (Op1.lenL Try.underlying28 (.tmp rfl)) ?_
      refine WL.op rfl (Op1.ltI (.tmp rfl) (.tmp rfl)) ?_
      refine WL.ns ?_
      refine W.cond (.tmp rfl) (fun hc7 => ?_) (fun hc7 => ?_)
      · have hp8 := of_decide_eq_true hc7
        rw [if_pos hp8] at hm
        refine W.skip ?_
        refine WN.seq ?_
        refine W.seq ?_
        refine W.block ?_
        refine W.seq ?_
        obtain ⟨s9, hs10, hk11⟩ := bind_some hm
        clear hm
        refine W.join (fun s : Bool => s = s9) (fun s => [(21, (tB.is s)), (0, ((tL tapi_Step).is p)), (3, ((tI .i64).is i))]) (fun s => []) ?_ ?_
        · rintro v hj33
          try dsimp only at hj33
          subst hj33
          have hm := hk11
          clear hk11
          try dsimp only at hm
          change W _ _ _ _ _ _ _ [(21, (tB.is v)), (0, ((tL tapi_Step).is p)), (3, ((tI .i64).is i))] []
          refine W.cond (.tmp rfl) (fun hc16 => ?_) (fun hc16 => ?_)
          · have hp17 := hc16
            rw [if_pos hp17] at hm
            refine W.exit rfl ?_
            refine WN.seq ?_
            refine W.region ?_
            refine WL.mv rfl rfl ?_
            refine WL.lenL (s := 0) (.tmp rfl) fun hl18 => ?_
            refine WL.op rfl (Op1.addI1 (.tmp rfl) (.int (inR64.2 (by omega))) hp8 hl18) ?_
            refine WL.gv rfl rfl ?_
            refine WL.nil ?_
            exact WN.again n6 (i + 1) (Nat.lt_succ_self n6) hm ⟨Ent.q rfl, Ent.q rfl, trivial⟩ trivial
          · have hp17 := ne_of_false hc16
            rw [if_neg hp17] at hm
            refine W.skip ?_
            refine WN.seq ?_
            refine W.sr ?_
            refine WL.mv rfl rfl ?_
            refine WL.mv rfl rfl ?_
            obtain ⟨v2, hv19, hm⟩ := bind_some hm
            refine WL.op rfl (Op1.idx hv19 Try.underlying28 Try.sizeOf63 (.tmp rfl) (.tmp rfl)) ?_
            refine WL.op rfl (Op1.fieldAddr Try.underlying63 rfl (fun w => ⟨0, Try.sizeOf3 w⟩) fapi_Step_0 (.tmp rfl)) ?_
            refine WL.op rfl (Op1.load ty3 (.tmp rfl)) ?_
            refine WL.op rfl (Op1.ltI (.tmp rfl) (.int (inR64.2 (by omega)))) ?_
            refine WL.mv rfl rfl ?_
            rcases bcases (decide (v2.Kind < (1 : Int))) with hb20 | hb20
            · have hp21 := of_decide_eq_true hb20
              rw [if_pos hp21] at hm
              refine WL.pass rfl rfl rfl rfl hb20 rfl rfl ?_
              refine WL.pass rfl rfl rfl rfl hb20 rfl rfl ?_
              refine WL.pass rfl rfl rfl rfl hb20 rfl rfl ?_
              refine WL.pass rfl rfl rfl rfl hb20 rfl rfl ?_
              refine WL.pass rfl rfl rfl rfl hb20 rfl rfl ?_
              refine WL.pass rfl rfl rfl rfl hb20 rfl rfl ?_
              refine WL.op rfl (Op1.pickT (.tmp rfl) hb20 .bool) ?_
              refine WL.mv rfl rfl ?_
              refine WL.pass rfl rfl rfl rfl rfl rfl rfl ?_
              refine WL.pass rfl rfl rfl rfl rfl rfl rfl ?_
              refine WL.pass rfl rfl rfl rfl rfl rfl rfl ?_
              refine WL.pass rfl rfl rfl rfl rfl rfl rfl ?_
              refine WL.pass rfl rfl rfl rfl rfl rfl rfl ?_
              refine WL.pass rfl rfl rfl rfl rfl rfl rfl ?_
              refine WL.pass rfl rfl rfl rfl rfl rfl rfl ?_
              refine WL.op rfl (Op1.pickT (.tmp rfl) rfl .bool) ?_
              refine WL.ns ?_
              refine W.condT (.tmp rfl) ?_
              refine W.sr ?_
              refine WL.op rfl (Op1.assign .bool) ?_
              refine WL.ns ?_
              have hr22 := Option.some.inj hm
              clear hm
              subst hr22
              have hm := hk5
              try dsimp only at hm
              cases hm
              exact W.ret1 () rfl (.tmp rfl) trivial
            · have hp21 := of_decide_eq_false hb20
              rw [if_neg hp21] at hm
              refine WL.run rfl rfl rfl rfl hb20 rfl rfl (Op1.move (.tmp rfl)) ?_
              refine WL.run rfl rfl rfl rfl hb20 rfl rfl (Op1.move (.tmp rfl)) ?_
              obtain ⟨v3, hv23, hm⟩ := bind_some hm
              refine WL.run rfl rfl rfl rfl hb20 rfl rfl (Op1.idx hv23 Try.underlying28 Try.sizeOf63 (.tmp rfl) (.tmp rfl)) ?_
              refine WL.run rfl rfl rfl rfl hb20 rfl rfl (Op1.fieldAddr Try.underlying63 rfl (fun w => ⟨0, Try.sizeOf3 w⟩) fapi_Step_0 (.tmp rfl)) ?_
              refine WL.run rfl rfl rfl rfl hb20 rfl rfl (Op1.load ty3 (.tmp rfl)) ?_
              refine WL.run rfl rfl rfl rfl hb20 rfl rfl (Op1.gtI (.tmp rfl) (.int (inR64.2 (by omega)))) ?_
              refine WL.op rfl (Op1.pickF (.tmp rfl) hb20 (.tmp rfl)) ?_
              refine WL.mv rfl rfl ?_
              rcases bcases (decide ((7 : Int) < v3.Kind)) with hb24 | hb24
              · have hp25 := of_decide_eq_true hb24
                rw [if_pos hp25] at hm
                refine WL.pass rfl rfl rfl rfl hb24 rfl rfl ?_
                refine WL.pass rfl rfl rfl rfl hb24 rfl rfl ?_
                refine WL.pass rfl rfl rfl rfl hb24 rfl rfl ?_
                refine WL.pass rfl rfl rfl rfl hb24 rfl rfl ?_
                refine WL.pass rfl rfl rfl rfl hb24 rfl rfl ?_
                refine WL.pass rfl rfl rfl rfl hb24 rfl rfl ?_
                refine WL.pass rfl rfl rfl rfl hb24 rfl rfl ?_
                refine WL.op rfl (Op1.pickT (.tmp rfl) hb24 .bool) ?_
                refine WL.ns ?_
                refine W.condT (.tmp rfl) ?_
                refine W.sr ?_
                refine WL.op rfl (Op1.assign .bool) ?_
                refine WL.ns ?_
                have hr26 := Option.some.inj hm
                clear hm
                subst hr26
                have hm := hk5
                try dsimp only at hm
                cases hm
                exact W.ret1 () rfl (.tmp rfl) trivial
              · have hp25 := of_decide_eq_false hb24
                rw [if_neg hp25] at hm
                refine WL.run rfl rfl rfl rfl hb24 rfl rfl (Op1.move (.tmp rfl)) ?_
                refine WL.run rfl rfl rfl rfl hb24 rfl rfl (Op1.move (.tmp rfl)) ?_
                obtain ⟨v4, hv27, hm⟩ := bind_some hm
                refine WL.run rfl rfl rfl rfl hb24 rfl rfl (Op1.idx hv27 Try.underlying28 Try.sizeOf63 (.tmp rfl) (.tmp rfl)) ?_
                refine WL.run rfl rfl rfl rfl hb24 rfl rfl (Op1.fieldAddr Try.underlying63 rfl (fun w => ⟨0, Try.sizeOf9 w⟩) fapi_Step_1 (.tmp rfl)) ?_
                refine WL.run rfl rfl rfl rfl hb24 rfl rfl (Op1.load ty9 (.tmp rfl)) ?_
                obtain ⟨may, hv28, hm⟩ := bind_some hm
                refine WL.run rfl rfl rfl rfl hb24 rfl rfl (Op1.call Try.call76 (r03_May_spec _ _ _ hv28) ⟨(.tmp rfl), trivial⟩) ?_
                refine WL.run rfl rfl rfl rfl hb24 rfl rfl (Op1.notB (.tmp rfl)) ?_
                refine WL.op rfl (Op1.pickF (.tmp rfl) hb24 (.tmp rfl)) ?_
                refine WL.ns ?_
                refine W.cond (.tmp rfl) (fun hc29 => ?_) (fun hc29 => ?_)
                · have hp30 := not_pos hc29
                  rw [if_pos hp30] at hm
                  refine W.sr ?_
                  refine WL.op rfl (Op1.assign .bool) ?_
                  refine WL.ns ?_
                  have hr31 := Option.some.inj hm
                  clear hm
                  subst hr31
                  have hm := hk5
                  try dsimp only at hm
                  cases hm
                  exact W.ret1 () rfl (.tmp rfl) trivial
                · have hp30 := not_neg hc29
                  rw [if_neg hp30] at hm
                  refine W.skip ?_
                  refine WN.block ?_
                  refine WN.seq ?_
                  refine W.region ?_
                  refine WL.mv rfl rfl ?_
                  refine WL.lenL (s := 0) (.tmp rfl) fun hl32 => ?_
                  refine WL.op rfl (Op1.addI1 (.tmp rfl) (.int (inR64.2 (by omega))) hp8 hl32) ?_
                  refine WL.gv rfl rfl ?_
                  refine WL.nil ?_
                  exact WN.again n6 (i + 1) (Nat.lt_succ_self n6) hm ⟨Ent.q rfl, Ent.q rfl, trivial⟩ trivial
        · have hm := hs10
          clear hs10
          refine W.region ?_
          refine WL.mv rfl rfl ?_
          refine WL.op rfl (Op1.eqI (.tmp rfl) (.int (inR64.2 (by omega)))) ?_
          refine WL.mv rfl rfl ?_
          rcases bcases (decide (i = (0 : Int))) with hb12 | hb12
          · have hp13 := of_decide_eq_true hb12
            rw [if_pos hp13] at hm
            refine WL.run rfl rfl rfl rfl hb12 rfl rfl (Op1.move (.tmp rfl)) ?_
            refine WL.run rfl rfl rfl rfl hb12 rfl rfl (Op1.move (.tmp rfl)) ?_
            obtain ⟨v1, hv14, hm⟩ := bind_some hm
            refine WL.run rfl rfl rfl rfl hb12 rfl rfl (Op1.idx hv14 Try.underlying28 Try.sizeOf63 (.tmp rfl) (.tmp rfl)) ?_
            refine WL.run rfl rfl rfl rfl hb12 rfl rfl (Op1.load ty63 (.tmp rfl)) ?_
            obtain ⟨book, hv15, hm⟩ := bind_some hm
            refine WL.run rfl rfl rfl rfl hb12 rfl rfl (Op1.call Try.call55 (r07_book_spec _ _ hv15) ⟨(.tmp rfl), trivial⟩) ?_
            refine WL.op rfl (Op1.pickT (.tmp rfl) hb12 (.tmp rfl)) ?_
            refine WL.nil ?_
            exact WN.meet book (Option.some.inj hm) ⟨Ent.q rfl, Ent.q rfl, Ent.q rfl, trivial⟩ trivial
          · have hp13 := of_decide_eq_false hb12
            rw [if_neg hp13] at hm
            refine WL.pass rfl rfl rfl rfl hb12 rfl rfl ?_
            refine WL.pass rfl rfl rfl rfl hb12 rfl rfl ?_
            refine WL.pass rfl rfl rfl rfl hb12 rfl rfl ?_
            refine WL.pass rfl rfl rfl rfl hb12 rfl rfl ?_
            refine WL.pass rfl rfl rfl rfl hb12 rfl rfl ?_
            refine WL.op rfl (Op1.pickF (.tmp rfl) hb12 .bool) ?_
            refine WL.nil ?_
            exact WN.meet false (Option.some.inj hm) ⟨Ent.q rfl, Ent.q rfl, Ent.q rfl, trivial⟩ trivial
      · have hp8 := of_decide_eq_false hc7
        rw [if_neg hp8] at hm
        refine W.exit rfl ?_
        have hr34 := Option.some.inj hm
        clear hm
        subst hr34
        have hm := hk5
        try dsimp only at hm
        refine WN.seq ?_
        refine W.sr ?_
        refine WL.op rfl (Op1.assign .bool) ?_
        refine WL.ns ?_
        cases hm
        exact W.ret1 () rfl (.tmp rfl) trivial

theorem r07_Every_spec : ∀ (n : Nat) (u : api_Unit) (r : (List api_Unit)), M.r07_Every n u = some r → FSpec Try.prog 56 [(tapi_Unit.is u)] ((tL tapi_Unit).is r) := by
  intro n
  induction n with
  | zero => intro u r hm; cases hm
  | succ n ih =>
    intro u r hm
    rw [M.r07_Every.eq_2] at hm
    refine FSpec.of Try.func56 rfl rfl rfl (fun g0 => ?_)
    refine W.sr ?_
    refine WL.op rfl (Op1.box (.tmp rfl)) ?_
    refine WL.op rfl (Op1.assign (.nil (t := tapi_Unit))) ?_
    refine WL.nr ?_
    refine WL.op rfl (Op1.load ty27 (.tmp rfl)) ?_
    refine WL.opR rfl (OpR.buildSlice (n := 1) (ys := [(0, u)]) (z := zapi_Unit) (xs := [u]) 6 Try.underlying25 el27 ze27 ⟨rfl, (.tmp rfl), trivial⟩ (by simp) (by decide) rfl) (fun k => ?_)
    refine WL.gv rfl rfl ?_
    refine WL.ns ?_
    refine W.seq ?_
    refine W.sr ?_
    refine WL.op rfl (Op1.assign (.int (inR64.2 (by omega)))) ?_
    refine WL.ns ?_
    refine W.block ?_
    obtain ⟨s1, hs2, hk3⟩ := bind_some hm
    clear hm
    refine W.loop (fun m (s : ((List api_Unit) × Int) × Tok) => M.r07_Every_loop1 u (M.r07_Every n) m s.1.1 s.1.2 = some s1) (fun s => [(3, (tO tapi_Unit s.2 s.1.1)), (4, ((tI .i64).is s.1.2)), (1, (tapi_Unit.ptr u))]) (fun s => [(6, Own tapi_Unit 27 s.2 s.1.1.length)]) _ (([u], (0 : Int)), k) hs2 ⟨Ent.q rfl, Ent.q rfl, Ent.q rfl, trivial⟩ ⟨rfl, rfl, trivial⟩ ?_
    rintro n4 ⟨⟨out, i⟩, k1⟩ hm
    try dsimp only at hm
    change W _ _ _ _ _ _ _ [(3, (tO tapi_Unit k1 out)), (4, ((tI .i64).is i)), (1, (tapi_Unit.ptr u))] [(6, Own tapi_Unit 27 k1 out.length)]
    cases n4 with
    | zero => rw [M.r07_Every_loop1.eq_1] at hm; cases hm
    | succ n4 =>
      rw [M.r07_Every_loop1.eq_2] at hm
      refine W.seq ?_
      refine W.sr ?_
      refine WL.mv rfl rfl ?_
      refine WL.op rfl (Op1.fieldAddr Try.underlying27 rfl (fun w => ⟨0, Try.sizeOf25 w⟩) fapi_Unit_5 (.tmp rfl)) ?_
      refine WL.op rfl (Op1.load ty25 (.tmp rfl)) ?_
      refine WL.op rfl (Op1.lenL Try.underlying25 (.tmp rfl)) ?_
      refine WL.op rfl (Op1.ltI (.tmp rfl) (.tmp rfl)) ?_
      refine WL.ns ?_
      refine W.cond (.tmp rfl) (fun hc5 => ?_) (fun hc5 => ?_)
      · have hp6 := of_decide_eq_true hc5
        rw [if_pos hp6] at hm
        refine W.skip ?_
        refine WN.seq ?_
        refine W.seq ?_
        refine W.block ?_
        refine W.region ?_
        refine WL.mv rfl rfl ?_
        refine WL.op rfl (Op1.fieldAddr Try.underlying27 rfl (fun w => ⟨0, Try.sizeOf25 w⟩) fapi_Unit_5 (.tmp rfl)) ?_
        refine WL.op rfl (Op1.load ty25 (.tmp rfl)) ?_
        refine WL.mv rfl rfl ?_
        obtain ⟨v, hv7, hm⟩ := bind_some hm
        refine WL.op rfl (Op1.idx hv7 Try.underlying25 Try.sizeOf27 (.tmp rfl) (.tmp rfl)) ?_
        refine WL.op rfl (Op1.load ty27 (.tmp rfl)) ?_
        obtain ⟨every, hv8, hm⟩ := bind_some hm
        refine WL.op rfl (Op1.call Try.call56 (ih _ _ hv8) ⟨(.tmp rfl), trivial⟩) ?_
        obtain ⟨out1, hv9, hm⟩ := bind_some hm
        refine WL.opR rfl (OpR.appC (key := 6) hv9 Try.underlying25 el27 (.tmp rfl) (.tmp rfl) rfl) (fun k2 => ?_)
        refine WL.gv rfl rfl ?_
        refine WL.nil ?_
        refine WN.block ?_
        refine WN.seq ?_
        refine W.region ?_
        refine WL.mv rfl rfl ?_
        refine WL.lenL (s := 9) (.tmp rfl) fun hl10 => ?_
        refine WL.op rfl (Op1.addI1 (.tmp rfl) (.int (inR64.2 (by omega))) hp6 hl10) ?_
        refine WL.gv rfl rfl ?_
        refine WL.nil ?_
        exact WN.again n4 ((out1, i + 1), k2) (Nat.lt_succ_self n4) hm ⟨Ent.q rfl, Ent.q rfl, Ent.q rfl, trivial⟩ ⟨rfl, rfl, trivial⟩
      · have hp6 := of_decide_eq_false hc5
        rw [if_neg hp6] at hm
        refine W.exit rfl ?_
        have hr11 := Option.some.inj hm
        clear hm
        subst hr11
        have hm := hk3
        try dsimp only at hm
        refine WN.seq ?_
        refine W.sr ?_
        refine WL.mv rfl rfl ?_
        refine WL.gv rfl rfl ?_
        refine WL.ns ?_
        cases hm
        exact W.ret1 () rfl (Opd.own (.tmp rfl)) trivial

theorem r07_at_spec (u : api_Unit) (s0_ : api_Step) (r : Bool) (hm : M.r07_at u s0_ = some r) : FSpec Try.prog 57 [(tapi_Unit.is u), (tapi_Step.is s0_)] (tB.is r) := by
  unfold M.r07_at at hm
  refine FSpec.of Try.func57 rfl rfl rfl (fun g0 => ?_)
  refine W.sr ?_
  refine WL.op rfl (Op1.box (.tmp rfl)) ?_
  refine WL.op rfl (Op1.box (.tmp rfl)) ?_
  refine WL.op rfl (Op1.assign .bool) ?_
  refine WL.nr ?_
  refine WL.op rfl (Op1.fieldAddr Try.underlying27 rfl (fun w => ⟨0, Try.sizeOf3 w⟩) fapi_Unit_1 (.tmp rfl)) ?_
  refine WL.op rfl (Op1.load ty3 (.tmp rfl)) ?_
  refine WL.op rfl (Op1.fieldAddr Try.underlying63 rfl (fun w => ⟨0, Try.sizeOf3 w⟩) fapi_Step_0 (.tmp rfl)) ?_
  refine WL.op rfl (Op1.load ty3 (.tmp rfl)) ?_
  refine WL.op rfl (Op1.eqI (.tmp rfl) (.tmp rfl)) ?_
  refine WL.mv rfl rfl ?_
  rcases bcases (decide (u.Kind = s0_.Kind)) with hb1 | hb1
  · have hp2 := of_decide_eq_true hb1
    rw [if_pos hp2] at hm
    refine WL.run rfl rfl rfl rfl hb1 rfl rfl (Op1.fieldAddr Try.underlying27 rfl (fun w => ⟨0, Try.sizeOf9 w⟩) fapi_Unit_2 (.tmp rfl)) ?_
    refine WL.run rfl rfl rfl rfl hb1 rfl rfl (Op1.load ty9 (.tmp rfl)) ?_
    refine WL.run rfl rfl rfl rfl hb1 rfl rfl (Op1.fieldAddr Try.underlying63 rfl (fun w => ⟨0, Try.sizeOf9 w⟩) fapi_Step_1 (.tmp rfl)) ?_
    refine WL.run rfl rfl rfl rfl hb1 rfl rfl (Op1.load ty9 (.tmp rfl)) ?_
    refine WL.run rfl rfl rfl rfl hb1 rfl rfl (Op1.eqS (.tmp rfl) (.tmp rfl)) ?_
    refine WL.op rfl (Op1.pickT (.tmp rfl) hb1 (.tmp rfl)) ?_
    refine WL.gv rfl rfl ?_
    refine WL.ns ?_
    cases hm
    exact W.ret1 () rfl (.tmp rfl) trivial
  · have hp2 := of_decide_eq_false hb1
    rw [if_neg hp2] at hm
    refine WL.pass rfl rfl rfl rfl hb1 rfl rfl ?_
    refine WL.pass rfl rfl rfl rfl hb1 rfl rfl ?_
    refine WL.pass rfl rfl rfl rfl hb1 rfl rfl ?_
    refine WL.pass rfl rfl rfl rfl hb1 rfl rfl ?_
    refine WL.pass rfl rfl rfl rfl hb1 rfl rfl ?_
    refine WL.op rfl (Op1.pickF (.tmp rfl) hb1 .bool) ?_
    refine WL.gv rfl rfl ?_
    refine WL.ns ?_
    cases hm
    exact W.ret1 () rfl (.tmp rfl) trivial

end Go.Proofs.Ytfclekegoleiaaa
