/-
  The code does what the models say: written by program.
-/
import Derived.Test.YtgicfjjhchohaaaWa
set_option linter.unusedVariables false
set_option linter.unusedSimpArgs false
namespace Go.Proofs.Ytgicfjjhchohaaa
open Go Go.Dec

set_option maxRecDepth 100000
theorem slices_IndexFunc_string_string_spec (n : Nat) (s0_ : List Str) (f : Str → Option Bool) (r : Int) (hm : M.slices_IndexFunc_string_string n s0_ f = some r) : FSpec Try.prog 40 [((tL tS).is s0_), (tF Try.prog (fun s : Str × Bool => f s.1 = some s.2) (fun s : Str × Bool => [tS.is s.1]) (fun s : Str × Bool => (tB.is s.2)))] ((tI .i64).is r) := by
  unfold M.slices_IndexFunc_string_string at hm
  refine FSpec.of Try.func40 rfl rfl rfl (fun g0 => ?_)
  refine W.seq ?_
  refine W.region ?_
  refine WL.op rfl (Op1.assign (.int (inR64.2 (by omega)))) ?_
  refine WL.nil ?_
  refine WN.seq ?_
  refine W.seq ?_
  refine W.seq ?_
  refine W.region ?_
  refine WL.op rfl (Op1.move (.tmp rfl)) ?_
  refine WL.op rfl (Op1.lenL Try.underlying22 (.tmp rfl)) ?_
  refine WL.op rfl (Op1.move (.int (inR64.2 (by omega)))) ?_
  refine WL.nil ?_
  refine WN.seq ?_
  refine W.block ?_
  obtain ⟨s1, hs2, hk3⟩ := bind_some hm
  clear hm
  refine W.loop (fun m (s : Int) => M.slices_IndexFunc_string_string_loop1 s0_ f m s = some s1) (fun s => [(8, ((tI .i64).is s)), (0, ((tL tS).is s0_)), (1, (tF Try.prog (fun s : Str × Bool => f s.1 = some s.2) (fun s : Str × Bool => [tS.is s.1]) (fun s : Str × Bool => (tB.is s.2)))), (7, ((tI .i64).is (s0_.length : Int)))]) (fun s => []) _ (0 : Int) hs2 ⟨Ent.q rfl, Ent.q rfl, Ent.q rfl, Ent.q rfl, trivial⟩ trivial ?_
  rintro n4 v hm
  try dsimp only at hm
  change W _ _ _ _ _ _ _ [(8, ((tI .i64).is v)), (0, ((tL tS).is s0_)), (1, (tF Try.prog (fun s : Str × Bool => f s.1 = some s.2) (fun s : Str × Bool => [tS.is s.1]) (fun s : Str × Bool => (tB.is s.2)))), (7, ((tI .i64).is (s0_.length : Int)))] []
  cases n4 with
  | zero => rw [M.slices_IndexFunc_string_string_loop1.eq_1] at hm; cases hm
  | succ n4 =>
    rw [M.slices_IndexFunc_string_string_loop1.eq_2] at hm
    refine W.seq ?_
    refine W.region ?_
    refine WL.op rfl (Op1.ltI (.tmp rfl) (.tmp rfl)) ?_
    refine WL.nil ?_
    refine WN.seq ?_
    refine W.seq ?_
    refine W.cond (.tmp rfl) (fun hc5 => ?_) (fun hc5 => ?_)
    · have hp6 := of_decide_eq_true hc5
      rw [if_pos hp6] at hm
      refine W.skip ?_
      refine WN.seq ?_
      refine W.seq ?_
      refine W.block ?_
      refine W.seq ?_
      refine W.region ?_
      refine WL.op rfl (Op1.move (.tmp rfl)) ?_
      refine WL.op rfl (Op1.assign (.tmp rfl)) ?_
      refine WL.nil ?_
      refine WN.seq ?_
      refine W.seq ?_
      refine W.region ?_
      refine WL.op rfl (Op1.move (.tmp rfl)) ?_
      refine WL.op rfl (Op1.move (.tmp rfl)) ?_
      refine WL.op rfl (Op1.move (.tmp rfl)) ?_
      obtain ⟨v1, hv7, hm⟩ := bind_some hm
      refine WL.op rfl (Op1.idx hv7 Try.underlying22 Try.sizeOf9 (.tmp rfl) (.tmp rfl)) ?_
      refine WL.op rfl (Op1.load ty9 (.tmp rfl)) ?_
      obtain ⟨v2, hv8, hm⟩ := bind_some hm
      refine WL.op rfl (Op1.callF (s := (v1, v2)) (.tmp rfl) hv8 ⟨(.tmp rfl), trivial⟩) ?_
      refine WL.nil ?_
      refine WN.seq ?_
      refine W.cond (.tmp rfl) (fun hc9 => ?_) (fun hc9 => ?_)
      · have hp10 := hc9
        rw [if_pos hp10] at hm
        refine W.seq ?_
        refine W.region ?_
        refine WL.op rfl (Op1.move (.tmp rfl)) ?_
        refine WL.op rfl (Op1.assign (.tmp rfl)) ?_
        refine WL.nil ?_
        refine WN.seq ?_
        have hr11 := Option.some.inj hm
        clear hm
        subst hr11
        have hm := hk3
        try dsimp only at hm
        have hr := Option.some.inj hm
        clear hm
        subst hr
        exact W.ret1 () rfl (.tmp rfl) trivial
      · have hp10 := ne_of_false hc9
        rw [if_neg hp10] at hm
        refine W.skip ?_
        refine WN.block ?_
        refine WN.seq ?_
        refine W.region ?_
        refine WL.lenL (s := 0) (.tmp rfl) fun hl12 => ?_
        refine WL.op rfl (Op1.addI1 (.tmp rfl) (.int (inR64.2 (by omega))) hp6 hl12) ?_
        refine WL.op rfl (Op1.move (.tmp rfl)) ?_
        refine WL.nil ?_
        exact WN.again n4 (v + 1) (Nat.lt_succ_self n4) hm ⟨Ent.q rfl, Ent.q rfl, Ent.q rfl, Ent.q rfl, trivial⟩ trivial
    · have hp6 := of_decide_eq_false hc5
      rw [if_neg hp6] at hm
      refine W.exit rfl ?_
      have hr13 := Option.some.inj hm
      clear hm
      subst hr13
      have hm := hk3
      try dsimp only at hm
      refine WN.seq ?_
      refine W.seq ?_
      refine W.region ?_
      refine WL.op rfl (Op1.assign (.int (inR64.2 (by omega)))) ?_
      refine WL.nil ?_
      refine WN.seq ?_
      have hr := Option.some.inj hm
      clear hm
      subst hr
      exact W.ret1 () rfl (.tmp rfl) trivial

theorem slices_ContainsFunc_string_string_spec (n : Nat) (s0_ : List Str) (f : Str → Option Bool) (r : Bool) (hm : M.slices_ContainsFunc_string_string n s0_ f = some r) : FSpec Try.prog 35 [((tL tS).is s0_), (tF Try.prog (fun s : Str × Bool => f s.1 = some s.2) (fun s : Str × Bool => [tS.is s.1]) (fun s : Str × Bool => (tB.is s.2)))] (tB.is r) := by
  unfold M.slices_ContainsFunc_string_string at hm
  refine FSpec.of Try.func35 rfl rfl rfl (fun g0 => ?_)
  refine W.seq ?_
  refine W.region ?_
  refine WL.op rfl (Op1.assign .bool) ?_
  refine WL.nil ?_
  refine WN.seq ?_
  refine W.seq ?_
  refine W.region ?_
  refine WL.op rfl (Op1.move (.tmp rfl)) ?_
  refine WL.op rfl (Op1.move (.tmp rfl)) ?_
  obtain ⟨string, hv1, hm⟩ := bind_some hm
  refine WL.op rfl (Op1.call Try.call40 (slices_IndexFunc_string_string_spec _ _ _ _ hv1) ⟨(.tmp rfl), (.tmp rfl), trivial⟩) ?_
  refine WL.op rfl (Op1.geI (.tmp rfl) (.int (inR64.2 (by omega)))) ?_
  refine WL.op rfl (Op1.assign (.tmp rfl)) ?_
  refine WL.nil ?_
  refine WN.seq ?_
  have hr := Option.some.inj hm
  clear hm
  subst hr
  exact W.ret1 () rfl (.tmp rfl) trivial

end Go.Proofs.Ytgicfjjhchohaaa
