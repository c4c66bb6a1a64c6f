/-
  The code does what the models say: written by program.
-/
import Derived.Test.YtgicfjjhchohaaaTy
set_option linter.unusedVariables false
set_option linter.unusedSimpArgs false
namespace Go.Proofs.Ytgicfjjhchohaaa
open Go Go.Dec

set_option maxRecDepth 100000
theorem law04_long_spec (n : Nat) (rows : List (List Str)) (r : Bool) (hm : M.law04_long n rows = some r) : FSpec Try.prog 9 [((tL (tL tS)).is rows)] (tB.is r) := by
  unfold M.law04_long at hm
  refine FSpec.of Try.func9 rfl rfl rfl (fun g0 => ?_)
  refine W.seq ?_
  refine W.region ?_
  refine WL.op rfl (Op1.assign .bool) ?_
  refine WL.nil ?_
  refine WN.seq ?_
  refine W.seq ?_
  refine W.seq ?_
  refine W.region ?_
  refine WL.op rfl (Op1.move (.tmp rfl)) ?_
  refine WL.op rfl (Op1.lenL Try.underlying38 (.tmp rfl)) ?_
  refine WL.op rfl (Op1.move (.int (inR64.2 (by omega)))) ?_
  refine WL.nil ?_
  refine WN.seq ?_
  refine W.block ?_
  obtain ⟨s1, hs2, hk3⟩ := bind_some hm
  clear hm
  refine W.loop (fun m (s : Int) => M.law04_long_loop1 rows m s = some s1) (fun s => [(10, ((tI .i64).is s)), (8, ((tL (tL tS)).is rows)), (9, ((tI .i64).is (rows.length : Int)))]) (fun s => []) _ (0 : Int) hs2 ⟨Ent.q rfl, Ent.q rfl, Ent.q rfl, trivial⟩ trivial ?_
  rintro n4 v hm
  try dsimp only at hm
  change W _ _ _ _ _ _ _ [(10, ((tI .i64).is v)), (8, ((tL (tL tS)).is rows)), (9, ((tI .i64).is (rows.length : Int)))] []
  cases n4 with
  | zero => rw [M.law04_long_loop1.eq_1] at hm; cases hm
  | succ n4 =>
    rw [M.law04_long_loop1.eq_2] at hm
    refine W.seq ?_
    refine W.region ?_
    refine WL.op rfl (Op1.ltI (.tmp rfl) (.tmp rfl)) ?_
    refine WL.nil ?_
    refine WN.seq ?_
    refine W.seq ?_
    refine W.cond (.tmp rfl) (fun hc5 => ?_) (fun hc5 => ?_)
    · have hp6 := of_decide_eq_true hc5
      rw [if_pos hp6] at hm
      refine W.skip ?_
      refine WN.seq ?_
      refine W.seq ?_
      refine W.block ?_
      refine W.seq ?_
      refine W.region ?_
      obtain ⟨v1, hv7, hm⟩ := bind_some hm
      refine WL.op rfl (Op1.idx hv7 Try.underlying38 Try.sizeOf22 (.tmp rfl) (.tmp rfl)) ?_
      refine WL.op rfl (Op1.load ty22 (.tmp rfl)) ?_
      refine WL.op rfl (Op1.assign (.tmp rfl)) ?_
      refine WL.nil ?_
      refine WN.seq ?_
      refine W.seq ?_
      refine W.region ?_
      refine WL.op rfl (Op1.assign (.int (inR64.2 (by omega)))) ?_
      refine WL.nil ?_
      refine WN.seq ?_
      refine W.seq ?_
      refine W.seq ?_
      refine W.region ?_
      refine WL.op rfl (Op1.move (.tmp rfl)) ?_
      refine WL.op rfl (Op1.lenL Try.underlying22 (.tmp rfl)) ?_
      refine WL.op rfl (Op1.move (.int (inR64.2 (by omega)))) ?_
      refine WL.nil ?_
      refine WN.seq ?_
      refine W.block ?_
      obtain ⟨s8, hs9, hk10⟩ := bind_some hm
      clear hm
      refine W.loop (fun m (s : Int × Int) => M.law04_long_loop2 v1 m s.1 s.2 = some s8) (fun s => [(5, ((tI .i64).is s.1)), (16, ((tI .i64).is s.2)), (4, ((tL tS).is v1)), (8, ((tL (tL tS)).is rows)), (9, ((tI .i64).is (rows.length : Int))), (10, ((tI .i64).is v)), (14, ((tL tS).is v1)), (15, ((tI .i64).is (v1.length : Int)))]) (fun s => []) _ ((0 : Int), (0 : Int)) hs9 ⟨Ent.q rfl, Ent.q rfl, Ent.q rfl, Ent.q rfl, Ent.q rfl, Ent.q rfl, Ent.q rfl, Ent.q rfl, trivial⟩ trivial ?_
      rintro n11 ⟨n0_, v2⟩ hm
      try dsimp only at hm
      change W _ _ _ _ _ _ _ [(5, ((tI .i64).is n0_)), (16, ((tI .i64).is v2)), (4, ((tL tS).is v1)), (8, ((tL (tL tS)).is rows)), (9, ((tI .i64).is (rows.length : Int))), (10, ((tI .i64).is v)), (14, ((tL tS).is v1)), (15, ((tI .i64).is (v1.length : Int)))] []
      cases n11 with
      | zero => rw [M.law04_long_loop2.eq_1] at hm; cases hm
      | succ n11 =>
        rw [M.law04_long_loop2.eq_2] at hm
        refine W.seq ?_
        refine W.region ?_
        refine WL.op rfl (Op1.ltI (.tmp rfl) (.tmp rfl)) ?_
        refine WL.nil ?_
        refine WN.seq ?_
        refine W.seq ?_
        refine W.cond (.tmp rfl) (fun hc12 => ?_) (fun hc12 => ?_)
        · have hp13 := of_decide_eq_true hc12
          rw [if_pos hp13] at hm
          refine W.skip ?_
          refine WN.seq ?_
          refine W.seq ?_
          refine W.block ?_
          refine W.seq ?_
          refine W.region ?_
          obtain ⟨v3, hv14, hm⟩ := bind_some hm
          refine WL.op rfl (Op1.idx hv14 Try.underlying22 Try.sizeOf9 (.tmp rfl) (.tmp rfl)) ?_
          refine WL.op rfl (Op1.load ty9 (.tmp rfl)) ?_
          refine WL.op rfl (Op1.assign (.tmp rfl)) ?_
          refine WL.nil ?_
          refine WN.seq ?_
          refine W.region ?_
          refine WL.op rfl (Op1.move (.tmp rfl)) ?_
          refine WL.op rfl (Op1.move (.tmp rfl)) ?_
          refine WL.op rfl (Op1.lenS Try.underlying9 (.tmp rfl)) ?_
          refine WL.op rfl (Op1.addW64 (.tmp rfl) (.tmp rfl)) ?_
          refine WL.op rfl (Op1.assign (.tmp rfl)) ?_
          refine WL.nil ?_
          refine WN.block ?_
          refine WN.seq ?_
          refine W.region ?_
          refine WL.lenL (s := 4) (.tmp rfl) fun hl15 => ?_
          refine WL.op rfl (Op1.addI1 (.tmp rfl) (.int (inR64.2 (by omega))) hp13 hl15) ?_
          refine WL.op rfl (Op1.move (.tmp rfl)) ?_
          refine WL.nil ?_
          exact WN.again n11 (wrap64 (n0_ + (v3.length : Int)), v2 + 1) (Nat.lt_succ_self n11) hm ⟨Ent.q rfl, Ent.q rfl, Ent.q rfl, Ent.q rfl, Ent.q rfl, Ent.q rfl, Ent.q rfl, Ent.q rfl, trivial⟩ trivial
        · have hp13 := of_decide_eq_false hc12
          rw [if_neg hp13] at hm
          refine W.exit rfl ?_
          have hr16 := Option.some.inj hm
          clear hm
          subst hr16
          have hm := hk10
          try dsimp only at hm
          refine WN.seq ?_
          refine W.seq ?_
          refine W.region ?_
          refine WL.op rfl (Op1.move (.tmp rfl)) ?_
          refine WL.op rfl (Op1.lenL Try.underlying22 (.tmp rfl)) ?_
          refine WL.op rfl (Op1.gtI (.tmp rfl) (.int (inR64.2 (by omega)))) ?_
          refine WL.op rfl (Op1.move (.tmp rfl)) ?_
          rcases bcases (decide ((300 : Int) < (v1.length : Int))) with hb17 | hb17
          · have hp18 := of_decide_eq_true hb17
            rw [if_pos hp18] at hm
            refine WL.pass rfl rfl rfl rfl hb17 rfl rfl ?_
            refine WL.pass rfl rfl rfl rfl hb17 rfl rfl ?_
            refine WL.op rfl (Op1.pickT (.tmp rfl) hb17 .bool) ?_
            refine WL.nil ?_
            refine WN.seq ?_
            refine W.cond (.tmp rfl) (fun hc19 => ?_) (fun hc19 => ?_)
            · have hp20 := hc19
              rw [if_pos hp20] at hm
              refine W.seq ?_
              refine W.region ?_
              refine WL.op rfl (Op1.assign .bool) ?_
              refine WL.nil ?_
              refine WN.seq ?_
              have hr21 := Option.some.inj hm
              clear hm
              subst hr21
              have hm := hk3
              try dsimp only at hm
              have hr := Option.some.inj hm
              clear hm
              subst hr
              exact W.ret1 () rfl (.tmp rfl) trivial
            · have hp20 := ne_of_false hc19
              rw [if_neg hp20] at hm
              refine W.skip ?_
              refine WN.block ?_
              refine WN.seq ?_
              refine W.region ?_
              refine WL.op rfl (Op1.addW64 (.tmp rfl) (.int (inR64.2 (by omega)))) ?_
              refine WL.op rfl (Op1.move (.tmp rfl)) ?_
              refine WL.nil ?_
              exact WN.again n4 (wrap64 (v + (1 : Int))) (Nat.lt_succ_self n4) hm ⟨Ent.q rfl, Ent.q rfl, Ent.q rfl, trivial⟩ trivial
          · have hp18 := of_decide_eq_false hb17
            rw [if_neg hp18] at hm
            refine WL.run rfl rfl rfl rfl hb17 rfl rfl (Op1.move (.tmp rfl)) ?_
            refine WL.run rfl rfl rfl rfl hb17 rfl rfl (Op1.gtI (.tmp rfl) (.int (inR64.2 (by omega)))) ?_
            refine WL.op rfl (Op1.pickF (.tmp rfl) hb17 (.tmp rfl)) ?_
            refine WL.nil ?_
            refine WN.seq ?_
            refine W.cond (.tmp rfl) (fun hc22 => ?_) (fun hc22 => ?_)
            · have hp23 := of_decide_eq_true hc22
              rw [if_pos hp23] at hm
              refine W.seq ?_
              refine W.region ?_
              refine WL.op rfl (Op1.assign .bool) ?_
              refine WL.nil ?_
              refine WN.seq ?_
              have hr24 := Option.some.inj hm
              clear hm
              subst hr24
              have hm := hk3
              try dsimp only at hm
              have hr := Option.some.inj hm
              clear hm
              subst hr
              exact W.ret1 () rfl (.tmp rfl) trivial
            · have hp23 := of_decide_eq_false hc22
              rw [if_neg hp23] at hm
              refine W.skip ?_
              refine WN.block ?_
              refine WN.seq ?_
              refine W.region ?_
              refine WL.op rfl (Op1.addW64 (.tmp rfl) (.int (inR64.2 (by omega)))) ?_
              refine WL.op rfl (Op1.move (.tmp rfl)) ?_
              refine WL.nil ?_
              exact WN.again n4 (wrap64 (v + (1 : Int))) (Nat.lt_succ_self n4) hm ⟨Ent.q rfl, Ent.q rfl, Ent.q rfl, trivial⟩ trivial
    · have hp6 := of_decide_eq_false hc5
      rw [if_neg hp6] at hm
      refine W.exit rfl ?_
      have hr25 := Option.some.inj hm
      clear hm
      subst hr25
      have hm := hk3
      try dsimp only at hm
      refine WN.seq ?_
      refine W.seq ?_
      refine W.region ?_
      refine WL.op rfl (Op1.assign .bool) ?_
      refine WL.nil ?_
      refine WN.seq ?_
      have hr := Option.some.inj hm
      clear hm
      subst hr
      exact W.ret1 () rfl (.tmp rfl) trivial

theorem slices_Equal_string_string_spec (n : Nat) (s1_ : List Str) (s2_ : List Str) (r : Bool) (hm : M.slices_Equal_string_string n s1_ s2_ = some r) : FSpec Try.prog 25 [((tL tS).is s1_), ((tL tS).is s2_)] (tB.is r) := by
  unfold M.slices_Equal_string_string at hm
  refine FSpec.of Try.func25 rfl rfl rfl (fun g0 => ?_)
  refine W.seq ?_
  refine W.region ?_
  refine WL.op rfl (Op1.assign .bool) ?_
  refine WL.nil ?_
  refine WN.seq ?_
  refine W.seq ?_
  refine W.seq ?_
  refine W.region ?_
  refine WL.op rfl (Op1.move (.tmp rfl)) ?_
  refine WL.op rfl (Op1.lenL Try.underlying22 (.tmp rfl)) ?_
  refine WL.op rfl (Op1.move (.tmp rfl)) ?_
  refine WL.op rfl (Op1.lenL Try.underlying22 (.tmp rfl)) ?_
  refine WL.op rfl (Op1.neI (.tmp rfl) (.tmp rfl)) ?_
  refine WL.nil ?_
  refine WN.seq ?_
  refine W.cond (.tmp rfl) (fun hc1 => ?_) (fun hc1 => ?_)
  · have hp2 := of_decide_eq_true hc1
    rw [if_pos hp2] at hm
    refine W.seq ?_
    refine W.region ?_
    refine WL.op rfl (Op1.assign .bool) ?_
    refine WL.nil ?_
    refine WN.seq ?_
    have hr := Option.some.inj hm
    clear hm
    subst hr
    exact W.ret1 () rfl (.tmp rfl) trivial
  · have hp2 := of_decide_eq_false hc1
    rw [if_neg hp2] at hm
    refine W.skip ?_
    refine WN.seq ?_
    refine W.seq ?_
    refine W.seq ?_
    refine W.region ?_
    refine WL.op rfl (Op1.move (.tmp rfl)) ?_
    refine WL.op rfl (Op1.lenL Try.underlying22 (.tmp rfl)) ?_
    refine WL.op rfl (Op1.move (.int (inR64.2 (by omega)))) ?_
    refine WL.nil ?_
    refine WN.seq ?_
    refine W.block ?_
    obtain ⟨s3, hs4, hk5⟩ := bind_some hm
    clear hm
    refine W.loop (fun m (s : Int) => M.slices_Equal_string_string_loop1 s1_ s2_ m s = some s3) (fun s => [(13, ((tI .i64).is s)), (0, ((tL tS).is s1_)), (1, ((tL tS).is s2_)), (12, ((tI .i64).is (s1_.length : Int)))]) (fun s => []) _ (0 : Int) hs4 ⟨Ent.q rfl, Ent.q rfl, Ent.q rfl, Ent.q rfl, trivial⟩ trivial ?_
    rintro n6 v hm
    try dsimp only at hm
    change W _ _ _ _ _ _ _ [(13, ((tI .i64).is v)), (0, ((tL tS).is s1_)), (1, ((tL tS).is s2_)), (12, ((tI .i64).is (s1_.length : Int)))] []
    cases n6 with
    | zero => rw [M.slices_Equal_string_string_loop1.eq_1] at hm; cases hm
    | succ n6 =>
      rw [M.slices_Equal_string_string_loop1.eq_2] at hm
      refine W.seq ?_
      refine W.region ?_
      refine WL.op rfl (Op1.ltI (.tmp rfl) (.tmp rfl)) ?_
      refine WL.nil ?_
      refine WN.seq ?_
      refine W.seq ?_
      refine W.cond (.tmp rfl) (fun hc7 => ?_) (fun hc7 => ?_)
      · have hp8 := of_decide_eq_true hc7
        rw [if_pos hp8] at hm
        refine W.skip ?_
        refine WN.seq ?_
        refine W.seq ?_
        refine W.block ?_
        refine W.seq ?_
        refine W.region ?_
        refine WL.op rfl (Op1.move (.tmp rfl)) ?_
        refine WL.op rfl (Op1.assign (.tmp rfl)) ?_
        refine WL.nil ?_
        refine WN.seq ?_
        refine W.seq ?_
        obtain ⟨v1, hv9, hm⟩ := bind_some hm
        obtain ⟨v2, hv10, hm⟩ := bind_some hm
        refine W.draw [.c ((tL tS).is s1_), .c ((tI .i64).is v), .c (tS.ptr v1), .c (tS.is v1), .c ((tL tS).is s2_), .c ((tI .i64).is v), .c (tS.ptr v2), .c (tS.is v2), .c (tB.is (v1 != v2))] [([], [0]), ([], [5]), ([0, 1], []), ([2], []), ([], [1]), ([], [5]), ([4, 5], []), ([6], []), ([3, 7], [])] Try.mixed rfl rfl rfl rfl ⟨.inr (Op1.move (.tmp rfl)), .inr (Op1.move (.tmp rfl)), .inr (Op1.idx hv9 Try.underlying22 Try.sizeOf9 (.tmp rfl) (.tmp rfl)), .inr (Op1.load ty9 (.tmp rfl)), .inr (Op1.move (.tmp rfl)), .inr (Op1.move (.tmp rfl)), .inr (Op1.idx hv10 Try.underlying22 Try.sizeOf9 (.tmp rfl) (.tmp rfl)), .inr (Op1.load ty9 (.tmp rfl)), .inr (Op1.neS (.tmp rfl) (.tmp rfl)), trivial⟩ ?_
        refine WN.seq ?_
        refine W.cond (.tmp rfl) (fun hc11 => ?_) (fun hc11 => ?_)
        · have hp12 := hc11
          rw [if_pos hp12] at hm
          refine W.seq ?_
          refine W.region ?_
          refine WL.op rfl (Op1.assign .bool) ?_
          refine WL.nil ?_
          refine WN.seq ?_
          have hr13 := Option.some.inj hm
          clear hm
          subst hr13
          have hm := hk5
          try dsimp only at hm
          have hr := Option.some.inj hm
          clear hm
          subst hr
          exact W.ret1 () rfl (.tmp rfl) trivial
        · have hp12 := ne_of_false hc11
          rw [if_neg hp12] at hm
          refine W.skip ?_
          refine WN.block ?_
          refine WN.seq ?_
          refine W.region ?_
          refine WL.lenL (s := 0) (.tmp rfl) fun hl14 => ?_
          refine WL.op rfl (Op1.addI1 (.tmp rfl) (.int (inR64.2 (by omega))) hp8 hl14) ?_
          refine WL.op rfl (Op1.move (.tmp rfl)) ?_
          refine WL.nil ?_
          exact WN.again n6 (v + 1) (Nat.lt_succ_self n6) hm ⟨Ent.q rfl, Ent.q rfl, Ent.q rfl, Ent.q rfl, trivial⟩ trivial
      · have hp8 := of_decide_eq_false hc7
        rw [if_neg hp8] at hm
        refine W.exit rfl ?_
        have hr15 := Option.some.inj hm
        clear hm
        subst hr15
        have hm := hk5
        try dsimp only at hm
        refine WN.seq ?_
        refine W.seq ?_
        refine W.region ?_
        refine WL.op rfl (Op1.assign .bool) ?_
        refine WL.nil ?_
        refine WN.seq ?_
        have hr := Option.some.inj hm
        clear hm
        subst hr
        exact W.ret1 () rfl (.tmp rfl) trivial

theorem wordseq_FindAll_spec (n : Nat) (l : List Str) (part : List Str) (r : (List Int)) (hm : M.wordseq_FindAll n l part = some r) : FSpecR Try.prog 11 [((tL tS).is l), ((tL tS).is part)] [] (fun k : Tok => tO (tI .i64) k r) (fun k => [(5, Own (tI .i64) 3 k r.length)]) := by
  unfold M.wordseq_FindAll at hm
  refine FSpecR.of Try.func11 rfl rfl rfl (fun g0 => ?_)
  refine W.seq ?_
  refine W.region ?_
  refine WL.addNil (t := (tI .i64)) (E := 3) 4 ?_
  refine WL.op rfl (Op1.assign (Opd.nilO (t := (tI .i64)))) ?_
  refine WL.nil ?_
  refine WN.seq ?_
  refine W.seq ?_
  refine W.region ?_
  refine WL.addNil (t := (tI .i64)) (E := 3) 5 ?_
  refine WL.op rfl (Op1.assign (Opd.nilO (t := (tI .i64)))) ?_
  refine WL.nil ?_
  refine WN.seq ?_
  refine W.seq ?_
  refine W.seq ?_
  refine W.region ?_
  refine WL.op rfl (Op1.move (.tmp rfl)) ?_
  refine WL.op rfl (Op1.lenL Try.underlying22 (.tmp rfl)) ?_
  refine WL.op rfl (Op1.eqI (.tmp rfl) (.int (inR64.2 (by omega)))) ?_
  refine WL.nil ?_
  refine WN.seq ?_
  refine W.cond (.tmp rfl) (fun hc1 => ?_) (fun hc1 => ?_)
  · have hp2 := of_decide_eq_true hc1
    rw [if_pos hp2] at hm
    refine W.seq ?_
    refine W.region ?_
    refine WL.addNil (t := (tI .i64)) (E := 3) 4 ?_
    refine WL.op rfl (Op1.assign (Opd.nilO (t := (tI .i64)))) ?_
    refine WL.nil ?_
    refine WN.seq ?_
    have hr := Option.some.inj hm
    clear hm
    subst hr
    exact W.ret1 (none : Tok) rfl (.tmp rfl) ⟨rfl, rfl, trivial⟩
  · have hp2 := of_decide_eq_false hc1
    rw [if_neg hp2] at hm
    refine W.skip ?_
    refine WN.seq ?_
    refine W.seq ?_
    refine W.seq ?_
    refine W.region ?_
    refine WL.op rfl (Op1.assign (.int (inR64.2 (by omega)))) ?_
    refine WL.nil ?_
    refine WN.seq ?_
    refine W.block ?_
    obtain ⟨s3, hs4, hk5⟩ := bind_some hm
    clear hm
    refine W.loop (fun m (s : ((List Int) × Int) × Tok) => M.wordseq_FindAll_loop1 l part m s.1.1 s.1.2 = some s3) (fun s => [(5, (tO (tI .i64) s.2 s.1.1)), (6, ((tI .i64).is s.1.2)), (0, ((tL tS).is l)), (1, ((tL tS).is part))]) (fun s => [(5, Own (tI .i64) 3 s.2 s.1.1.length)]) _ ((([] : List Int), (0 : Int)), (none : Tok)) hs4 ⟨Ent.q rfl, Ent.q rfl, Ent.q rfl, Ent.q rfl, trivial⟩ ⟨rfl, rfl, trivial⟩ ?_
    rintro n6 ⟨⟨out, i⟩, k⟩ hm
    try dsimp only at hm
    change W _ _ _ _ _ _ _ [(5, (tO (tI .i64) k out)), (6, ((tI .i64).is i)), (0, ((tL tS).is l)), (1, ((tL tS).is part))] [(5, Own (tI .i64) 3 k out.length)]
    cases n6 with
    | zero => rw [M.wordseq_FindAll_loop1.eq_1] at hm; cases hm
    | succ n6 =>
      rw [M.wordseq_FindAll_loop1.eq_2] at hm
      refine W.seq ?_
      refine W.seq ?_
      refine W.region ?_
      refine WL.op rfl (Op1.move (.tmp rfl)) ?_
      refine WL.op rfl (Op1.move (.tmp rfl)) ?_
      refine WL.op rfl (Op1.lenL Try.underlying22 (.tmp rfl)) ?_
      obtain ⟨v, hv7, hm⟩ := bind_some hm
      refine WL.op rfl (Op1.addC hv7 (.tmp rfl) (.tmp rfl)) ?_
      refine WL.op rfl (Op1.move (.tmp rfl)) ?_
      refine WL.op rfl (Op1.lenL Try.underlying22 (.tmp rfl)) ?_
      refine WL.op rfl (Op1.leI (.tmp rfl) (.tmp rfl)) ?_
      refine WL.nil ?_
      refine WN.seq ?_
      refine W.cond (.tmp rfl) (fun hc8 => ?_) (fun hc8 => ?_)
      · have hp9 := of_decide_eq_true hc8
        rw [if_pos hp9] at hm
        refine W.skip ?_
        refine WN.seq ?_
        refine W.block ?_
        refine W.seq ?_
        refine W.seq ?_
        refine W.region ?_
        refine WL.op rfl (Op1.move (.tmp rfl)) ?_
        refine WL.op rfl (Op1.move (.tmp rfl)) ?_
        refine WL.op rfl (Op1.move (.tmp rfl)) ?_
        refine WL.op rfl (Op1.move (.tmp rfl)) ?_
        refine WL.op rfl (Op1.lenL Try.underlying22 (.tmp rfl)) ?_
        obtain ⟨v1, hv10, hm⟩ := bind_some hm
        refine WL.op rfl (Op1.addC hv10 (.tmp rfl) (.tmp rfl)) ?_
        obtain ⟨v2, hv11, hm⟩ := bind_some hm
        refine WL.op rfl (Op1.slc hv11 Try.underlying22 Try.sizeOf9 (.tmp rfl) (.tmp rfl) (.tmp rfl)) ?_
        refine WL.op rfl (Op1.move (.tmp rfl)) ?_
        obtain ⟨string, hv12, hm⟩ := bind_some hm
        refine WL.op rfl (Op1.call Try.call25 (slices_Equal_string_string_spec _ _ _ _ hv12) ⟨(.tmp rfl), (.tmp rfl), trivial⟩) ?_
        refine WL.op rfl (Op1.notB (.tmp rfl)) ?_
        refine WL.nil ?_
        refine WN.seq ?_
        refine W.cond (.tmp rfl) (fun hc13 => ?_) (fun hc13 => ?_)
        · have hp14 := not_pos hc13
          rw [if_pos hp14] at hm
          refine W.seq ?_
          refine W.region ?_
          refine WL.op rfl (Op1.move (.tmp rfl)) ?_
          obtain ⟨v3, hv15, hm⟩ := bind_some hm
          refine WL.op rfl (Op1.addC hv15 (.tmp rfl) (.int (inR64.2 (by omega)))) ?_
          refine WL.op rfl (Op1.assign (.tmp rfl)) ?_
          refine WL.nil ?_
          refine WN.seq ?_
          refine W.exit rfl ?_
          exact WN.again n6 ((out, v3), k) (Nat.lt_succ_self n6) hm ⟨Ent.q rfl, Ent.q rfl, Ent.q rfl, Ent.q rfl, trivial⟩ ⟨rfl, rfl, trivial⟩
        · have hp14 := not_neg hc13
          rw [if_neg hp14] at hm
          refine W.skip ?_
          refine WN.seq ?_
          refine W.seq ?_
          refine W.region ?_
          refine WL.op rfl (Op1.move (.tmp rfl)) ?_
          refine WL.op rfl (Op1.move (.tmp rfl)) ?_
          refine WL.op rfl (Op1.buildSlice (n := 1) (ys := [(0, i)]) (z := (0 : Int)) (xs := [i]) Try.underlying25 el3 ze3 ⟨rfl, (.tmp rfl), trivial⟩ (by simp) (by decide) rfl) ?_
          obtain ⟨out1, hv16, hm⟩ := bind_some hm
          refine WL.opR rfl (OpR.appC (key := 5) hv16 Try.underlying25 el3 (.tmp rfl) (.tmp rfl) rfl) (fun k1 => ?_)
          refine WL.op rfl (Op1.assign (.tmp rfl)) ?_
          refine WL.nil ?_
          refine WN.seq ?_
          refine W.region ?_
          refine WL.op rfl (Op1.move (.tmp rfl)) ?_
          refine WL.op rfl (Op1.move (.tmp rfl)) ?_
          refine WL.op rfl (Op1.lenL Try.underlying22 (.tmp rfl)) ?_
          obtain ⟨v4, hv17, hm⟩ := bind_some hm
          refine WL.op rfl (Op1.addC hv17 (.tmp rfl) (.tmp rfl)) ?_
          refine WL.op rfl (Op1.assign (.tmp rfl)) ?_
          refine WL.nil ?_
          refine WN.block ?_
          exact WN.again n6 ((out1, v4), k1) (Nat.lt_succ_self n6) hm ⟨Ent.q rfl, Ent.q rfl, Ent.q rfl, Ent.q rfl, trivial⟩ ⟨rfl, rfl, trivial⟩
      · have hp9 := of_decide_eq_false hc8
        rw [if_neg hp9] at hm
        refine W.exit rfl ?_
        have hr18 := Option.some.inj hm
        clear hm
        subst hr18
        have hm := hk5
        try dsimp only at hm
        refine WN.seq ?_
        refine W.seq ?_
        refine W.region ?_
        refine WL.op rfl (Op1.move (.tmp rfl)) ?_
        refine WL.op rfl (Op1.assign (.tmp rfl)) ?_
        refine WL.nil ?_
        refine WN.seq ?_
        have hr := Option.some.inj hm
        clear hm
        subst hr
        exact W.ret1 k rfl (.tmp rfl) ⟨rfl, rfl, trivial⟩

theorem wordseq_chosen_spec (n : Nat) (l : List Str) (part : List Str) (nth : Int) (r : (List Int)) (hm : M.wordseq_chosen n l part nth = some r) : FSpec Try.prog 27 [((tL tS).is l), ((tL tS).is part), ((tI .i64).is nth)] ((tL (tI .i64)).is r) := by
  unfold M.wordseq_chosen at hm
  refine FSpec.of Try.func27 rfl rfl rfl (fun g0 => ?_)
  refine W.seq ?_
  refine W.region ?_
  refine WL.op rfl (Op1.assign (.nil (t := (tI .i64)))) ?_
  refine WL.nil ?_
  refine WN.seq ?_
  refine W.seq ?_
  refine W.region ?_
  refine WL.op rfl (Op1.move (.tmp rfl)) ?_
  refine WL.op rfl (Op1.move (.tmp rfl)) ?_
  obtain ⟨findal, hv1, hm⟩ := bind_some hm
  refine WL.op rfl (Op1.call Try.call11 ((wordseq_FindAll_spec _ _ _ _ hv1).read fun _ _ _ => tO_tL) ⟨(.tmp rfl), (.tmp rfl), trivial⟩) ?_
  refine WL.op rfl (Op1.assign (.tmp rfl)) ?_
  refine WL.nil ?_
  refine WN.seq ?_
  refine W.seq ?_
  refine W.block ?_
  refine W.seq ?_
  refine W.region ?_
  refine WL.op rfl (Op1.move (.tmp rfl)) ?_
  refine WL.op rfl (Op1.eqI (.tmp rfl) (.int (inR64.2 (by omega)))) ?_
  refine WL.op rfl (Op1.assign (.tmp rfl)) ?_
  refine WL.nil ?_
  refine WN.seq ?_
  refine W.cond (.tmp rfl) (fun hc2 => ?_) (fun hc2 => ?_)
  · have hp3 := of_decide_eq_true hc2
    rw [if_pos hp3] at hm
    refine W.seq ?_
    refine W.region ?_
    refine WL.op rfl (Op1.move (.tmp rfl)) ?_
    refine WL.op rfl (Op1.assign (.tmp rfl)) ?_
    refine WL.nil ?_
    refine WN.seq ?_
    have hr := Option.some.inj hm
    clear hm
    subst hr
    exact W.ret1 () rfl (.tmp rfl) trivial
  · have hp3 := of_decide_eq_false hc2
    rw [if_neg hp3] at hm
    refine W.seq ?_
    refine W.region ?_
    refine WL.op rfl (Op1.move (.tmp rfl)) ?_
    refine WL.op rfl (Op1.ltI (.tmp rfl) (.int (inR64.2 (by omega)))) ?_
    refine WL.op rfl (Op1.move (.tmp rfl)) ?_
    rcases bcases (decide (nth < (0 : Int))) with hb4 | hb4
    · have hp5 := of_decide_eq_true hb4
      rw [if_pos hp5] at hm
      refine WL.pass rfl rfl rfl rfl hb4 rfl rfl ?_
      refine WL.pass rfl rfl rfl rfl hb4 rfl rfl ?_
      refine WL.pass rfl rfl rfl rfl hb4 rfl rfl ?_
      refine WL.pass rfl rfl rfl rfl hb4 rfl rfl ?_
      refine WL.op rfl (Op1.pickT (.tmp rfl) hb4 .bool) ?_
      refine WL.op rfl (Op1.assign (.tmp rfl)) ?_
      refine WL.nil ?_
      refine WN.seq ?_
      refine W.cond (.tmp rfl) (fun hc6 => ?_) (fun hc6 => ?_)
      · have hp7 := hc6
        rw [if_pos hp7] at hm
        refine W.seq ?_
        refine W.region ?_
        refine WL.op rfl (Op1.assign (.nil (t := (tI .i64)))) ?_
        refine WL.nil ?_
        refine WN.seq ?_
        have hr := Option.some.inj hm
        clear hm
        subst hr
        exact W.ret1 () rfl (.tmp rfl) trivial
      · have hp7 := ne_of_false hc6
        rw [if_neg hp7] at hm
        refine W.skip ?_
        refine WN.block ?_
        refine WN.seq ?_
        refine W.seq ?_
        refine W.region ?_
        refine WL.op rfl (Op1.move (.tmp rfl)) ?_
        refine WL.op rfl (Op1.move (.tmp rfl)) ?_
        obtain ⟨v, hv8, hm⟩ := bind_some hm
        refine WL.op rfl (Op1.subC hv8 (.tmp rfl) (.int (inR64.2 (by omega)))) ?_
        refine WL.op rfl (Op1.move (.tmp rfl)) ?_
        obtain ⟨v1, hv9, hm⟩ := bind_some hm
        refine WL.op rfl (Op1.slc hv9 Try.underlying25 Try.sizeOf3 (.tmp rfl) (.tmp rfl) (.tmp rfl)) ?_
        refine WL.op rfl (Op1.assign (.tmp rfl)) ?_
        refine WL.nil ?_
        refine WN.seq ?_
        have hr := Option.some.inj hm
        clear hm
        subst hr
        exact W.ret1 () rfl (.tmp rfl) trivial
    · have hp5 := of_decide_eq_false hb4
      rw [if_neg hp5] at hm
      refine WL.run rfl rfl rfl rfl hb4 rfl rfl (Op1.move (.tmp rfl)) ?_
      refine WL.run rfl rfl rfl rfl hb4 rfl rfl (Op1.move (.tmp rfl)) ?_
      refine WL.run rfl rfl rfl rfl hb4 rfl rfl (Op1.lenL Try.underlying25 (.tmp rfl)) ?_
      refine WL.run rfl rfl rfl rfl hb4 rfl rfl (Op1.gtI (.tmp rfl) (.tmp rfl)) ?_
      refine WL.op rfl (Op1.pickF (.tmp rfl) hb4 (.tmp rfl)) ?_
      refine WL.op rfl (Op1.assign (.tmp rfl)) ?_
      refine WL.nil ?_
      refine WN.seq ?_
      refine W.cond (.tmp rfl) (fun hc10 => ?_) (fun hc10 => ?_)
      · have hp11 := of_decide_eq_true hc10
        rw [if_pos hp11] at hm
        refine W.seq ?_
        refine W.region ?_
        refine WL.op rfl (Op1.assign (.nil (t := (tI .i64)))) ?_
        refine WL.nil ?_
        refine WN.seq ?_
        have hr := Option.some.inj hm
        clear hm
        subst hr
        exact W.ret1 () rfl (.tmp rfl) trivial
      · have hp11 := of_decide_eq_false hc10
        rw [if_neg hp11] at hm
        refine W.skip ?_
        refine WN.block ?_
        refine WN.seq ?_
        refine W.seq ?_
        refine W.region ?_
        refine WL.op rfl (Op1.move (.tmp rfl)) ?_
        refine WL.op rfl (Op1.move (.tmp rfl)) ?_
        obtain ⟨v2, hv12, hm⟩ := bind_some hm
        refine WL.op rfl (Op1.subC hv12 (.tmp rfl) (.int (inR64.2 (by omega)))) ?_
        refine WL.op rfl (Op1.move (.tmp rfl)) ?_
        obtain ⟨v3, hv13, hm⟩ := bind_some hm
        refine WL.op rfl (Op1.slc hv13 Try.underlying25 Try.sizeOf3 (.tmp rfl) (.tmp rfl) (.tmp rfl)) ?_
        refine WL.op rfl (Op1.assign (.tmp rfl)) ?_
        refine WL.nil ?_
        refine WN.seq ?_
        have hr := Option.some.inj hm
        clear hm
        subst hr
        exact W.ret1 () rfl (.tmp rfl) trivial

theorem wordseq_Replace_1_spec (a : List Str) (c : List Str) (r : (List Str)) (hm : M.wordseq_Replace_1 a c = some r) : FSpec Try.prog 28 [((tL tS).is a), ((tL tS).ptr c)] ((tL tS).is r) := by
  unfold M.wordseq_Replace_1 at hm
  refine FSpec.of Try.func28 rfl rfl rfl (fun g0 => ?_)
  refine W.seq ?_
  refine W.region ?_
  refine WL.op rfl (Op1.assign (.nil (t := tS))) ?_
  refine WL.nil ?_
  refine WN.seq ?_
  refine W.seq ?_
  refine W.region ?_
  refine WL.op rfl (Op1.load ty22 (.tmp rfl)) ?_
  refine WL.op rfl (Op1.assign (.tmp rfl)) ?_
  refine WL.nil ?_
  refine WN.seq ?_
  have hr := Option.some.inj hm
  clear hm
  subst hr
  exact W.ret1 () rfl (.tmp rfl) trivial

theorem wordseq_each_spec (n : Nat) (l : List Str) (part : List Str) (places : List Int) (does : (List Str) → Option ((List Str))) (r : (List Str) × Int) (hm : M.wordseq_each n l part places does = some r) : FSpec Try.prog 26 [((tL tS).is l), ((tL tS).is part), ((tL (tI .i64)).is places), (tF Try.prog (fun s : (List Str) × ((List Str)) => does s.1 = some s.2) (fun s : (List Str) × ((List Str)) => [(tL tS).is s.1]) (fun s : (List Str) × ((List Str)) => ((tL tS).is s.2)))] (Asn.tuple2 ((tL tS).is r.1) ((tI .i64).is r.2)) := by
  unfold M.wordseq_each at hm
  refine FSpec.of Try.func26 rfl rfl rfl (fun g0 => ?_)
  refine W.seq ?_
  refine W.region ?_
  refine WL.op rfl (Op1.assign (.nil (t := tS))) ?_
  refine WL.op rfl (Op1.assign (.int (inR64.2 (by omega)))) ?_
  refine WL.nil ?_
  refine WN.seq ?_
  refine W.seq ?_
  refine W.region ?_
  refine WL.addNil (t := tS) (E := 9) 10 ?_
  refine WL.op rfl (Op1.assign (Opd.nilO (t := tS))) ?_
  refine WL.nil ?_
  refine WN.seq ?_
  refine W.seq ?_
  refine W.region ?_
  refine WL.op rfl (Op1.assign (.int (inR64.2 (by omega)))) ?_
  refine WL.nil ?_
  refine WN.seq ?_
  refine W.seq ?_
  refine W.seq ?_
  refine W.region ?_
  refine WL.op rfl (Op1.move (.tmp rfl)) ?_
  refine WL.op rfl (Op1.lenL Try.underlying25 (.tmp rfl)) ?_
  refine WL.op rfl (Op1.move (.int (inR64.2 (by omega)))) ?_
  refine WL.nil ?_
  refine WN.seq ?_
  refine W.block ?_
  obtain ⟨s1, hs2, hk3⟩ := bind_some hm
  clear hm
  refine W.loop (fun m (s : ((List Str) × Int × Int) × Tok) => M.wordseq_each_loop1 l part places does m s.1.1 s.1.2.1 s.1.2.2 = some s1) (fun s => [(10, (tO tS s.2 s.1.1)), (11, ((tI .i64).is s.1.2.1)), (16, ((tI .i64).is s.1.2.2)), (0, ((tL tS).is l)), (1, ((tL tS).is part)), (2, ((tL (tI .i64)).is places)), (3, (tF Try.prog (fun s : (List Str) × ((List Str)) => does s.1 = some s.2) (fun s : (List Str) × ((List Str)) => [(tL tS).is s.1]) (fun s : (List Str) × ((List Str)) => ((tL tS).is s.2)))), (14, ((tL (tI .i64)).is places)), (15, ((tI .i64).is (places.length : Int)))]) (fun s => [(10, Own tS 9 s.2 s.1.1.length)]) _ ((([] : List Str), (0 : Int), (0 : Int)), (none : Tok)) hs2 ⟨Ent.q rfl, Ent.q rfl, Ent.q rfl, Ent.q rfl, Ent.q rfl, Ent.q rfl, Ent.q rfl, Ent.q rfl, Ent.q rfl, trivial⟩ ⟨rfl, rfl, trivial⟩ ?_
  rintro n4 ⟨⟨out, from0_, v⟩, k⟩ hm
  try dsimp only at hm
  change W _ _ _ _ _ _ _ [(10, (tO tS k out)), (11, ((tI .i64).is from0_)), (16, ((tI .i64).is v)), (0, ((tL tS).is l)), (1, ((tL tS).is part)), (2, ((tL (tI .i64)).is places)), (3, (tF Try.prog (fun s : (List Str) × ((List Str)) => does s.1 = some s.2) (fun s : (List Str) × ((List Str)) => [(tL tS).is s.1]) (fun s : (List Str) × ((List Str)) => ((tL tS).is s.2)))), (14, ((tL (tI .i64)).is places)), (15, ((tI .i64).is (places.length : Int)))] [(10, Own tS 9 k out.length)]
  cases n4 with
  | zero => rw [M.wordseq_each_loop1.eq_1] at hm; cases hm
  | succ n4 =>
    rw [M.wordseq_each_loop1.eq_2] at hm
    refine W.seq ?_
    refine W.region ?_
    refine WL.op rfl (Op1.ltI (.tmp rfl) (.tmp rfl)) ?_
    refine WL.nil ?_
    refine WN.seq ?_
    refine W.seq ?_
    refine W.cond (.tmp rfl) (fun hc5 => ?_) (fun hc5 => ?_)
    · have hp6 := of_decide_eq_true hc5
      rw [if_pos hp6] at hm
      refine W.skip ?_
      refine WN.seq ?_
      refine W.seq ?_
      refine W.block ?_
      refine W.seq ?_
      refine W.region ?_
      obtain ⟨v1, hv7, hm⟩ := bind_some hm
      refine WL.op rfl (Op1.idx hv7 Try.underlying25 Try.sizeOf3 (.tmp rfl) (.tmp rfl)) ?_
      refine WL.op rfl (Op1.load ty3 (.tmp rfl)) ?_
      refine WL.op rfl (Op1.assign (.tmp rfl)) ?_
      refine WL.nil ?_
      refine WN.seq ?_
      refine W.seq ?_
      refine W.region ?_
      refine WL.op rfl (Op1.move (.tmp rfl)) ?_
      refine WL.op rfl (Op1.move (.tmp rfl)) ?_
      refine WL.op rfl (Op1.move (.tmp rfl)) ?_
      refine WL.op rfl (Op1.move (.tmp rfl)) ?_
      obtain ⟨v2, hv8, hm⟩ := bind_some hm
      refine WL.op rfl (Op1.slc hv8 Try.underlying22 Try.sizeOf9 (.tmp rfl) (.tmp rfl) (.tmp rfl)) ?_
      obtain ⟨out1, hv9, hm⟩ := bind_some hm
      refine WL.opR rfl (OpR.appC (key := 10) hv9 Try.underlying22 el9 (.tmp rfl) (.tmp rfl) rfl) (fun k1 => ?_)
      refine WL.op rfl (Op1.assign (.tmp rfl)) ?_
      refine WL.nil ?_
      refine WN.seq ?_
      refine W.seq ?_
      refine W.region ?_
      refine WL.op rfl (Op1.move (.tmp rfl)) ?_
      refine WL.op rfl (Op1.move (.tmp rfl)) ?_
      refine WL.op rfl (Op1.lenL Try.underlying22 (.tmp rfl)) ?_
      obtain ⟨v3, hv10, hm⟩ := bind_some hm
      refine WL.op rfl (Op1.addC hv10 (.tmp rfl) (.tmp rfl)) ?_
      refine WL.op rfl (Op1.assign (.tmp rfl)) ?_
      refine WL.nil ?_
      refine WN.seq ?_
      refine W.region ?_
      refine WL.op rfl (Op1.move (.tmp rfl)) ?_
      refine WL.op rfl (Op1.move (.tmp rfl)) ?_
      refine WL.op rfl (Op1.move (.tmp rfl)) ?_
      refine WL.op rfl (Op1.move (.tmp rfl)) ?_
      refine WL.op rfl (Op1.move (.tmp rfl)) ?_
      obtain ⟨v4, hv11, hm⟩ := bind_some hm
      refine WL.op rfl (Op1.slc hv11 Try.underlying22 Try.sizeOf9 (.tmp rfl) (.tmp rfl) (.tmp rfl)) ?_
      obtain ⟨v5, hv12, hm⟩ := bind_some hm
      refine WL.op rfl (Op1.callF (s := (v4, v5)) (.tmp rfl) hv12 ⟨(.tmp rfl), trivial⟩) ?_
      obtain ⟨out2, hv13, hm⟩ := bind_some hm
      refine WL.opR rfl (OpR.appC (key := 10) hv13 Try.underlying22 el9 (.tmp rfl) (.tmp rfl) rfl) (fun k2 => ?_)
      refine WL.op rfl (Op1.assign (.tmp rfl)) ?_
      refine WL.nil ?_
      refine WN.block ?_
      refine WN.seq ?_
      refine W.region ?_
      refine WL.lenL (s := 2) (.tmp rfl) fun hl14 => ?_
      refine WL.op rfl (Op1.addI1 (.tmp rfl) (.int (inR64.2 (by omega))) hp6 hl14) ?_
      refine WL.op rfl (Op1.move (.tmp rfl)) ?_
      refine WL.nil ?_
      exact WN.again n4 ((out2, v3, v + 1), k2) (Nat.lt_succ_self n4) hm ⟨Ent.q rfl, Ent.q rfl, Ent.q rfl, Ent.q rfl, Ent.q rfl, Ent.q rfl, Ent.q rfl, Ent.q rfl, Ent.q rfl, trivial⟩ ⟨rfl, rfl, trivial⟩
    · have hp6 := of_decide_eq_false hc5
      rw [if_neg hp6] at hm
      refine W.exit rfl ?_
      have hr15 := Option.some.inj hm
      clear hm
      subst hr15
      have hm := hk3
      try dsimp only at hm
      refine WN.seq ?_
      refine W.seq ?_
      refine W.region ?_
      refine WL.op rfl (Op1.move (.tmp rfl)) ?_
      refine WL.op rfl (Op1.move (.tmp rfl)) ?_
      refine WL.op rfl (Op1.move (.tmp rfl)) ?_
      obtain ⟨v6, hv16, hm⟩ := bind_some hm
      refine WL.op rfl (Op1.slcLo hv16 Try.underlying22 Try.sizeOf9 (.tmp rfl) (.tmp rfl)) ?_
      obtain ⟨out3, hv17, hm⟩ := bind_some hm
      refine WL.opR rfl (OpR.appC (key := 10) hv17 Try.underlying22 el9 (.tmp rfl) (.tmp rfl) rfl) (fun k3 => ?_)
      refine WL.op rfl (Op1.move (.tmp rfl)) ?_
      refine WL.op rfl (Op1.lenL Try.underlying25 (.tmp rfl)) ?_
      refine WL.op rfl (Op1.assign (.tmp rfl)) ?_
      refine WL.op rfl (Op1.assign (.tmp rfl)) ?_
      refine WL.nil ?_
      refine WN.seq ?_
      have hr := Option.some.inj hm
      clear hm
      subst hr
      exact W.ret2 () rfl rfl (Opd.own (.tmp rfl)) (.tmp rfl) trivial

theorem wordseq_Replace_spec (n : Nat) (l : List Str) (old : List Str) (fresh : List Str) (nth : Int) (r : (List Str) × Int) (hm : M.wordseq_Replace n l old fresh nth = some r) : FSpec Try.prog 13 [((tL tS).is l), ((tL tS).is old), ((tL tS).is fresh), ((tI .i64).is nth)] (Asn.tuple2 ((tL tS).is r.1) ((tI .i64).is r.2)) := by
  unfold M.wordseq_Replace at hm
  refine FSpec.of Try.func13 rfl rfl rfl (fun g0 => ?_)
  refine W.seq ?_
  refine W.region ?_
  refine WL.op rfl (Op1.box (.tmp rfl)) ?_
  refine WL.op rfl (Op1.assign (.nil (t := tS))) ?_
  refine WL.op rfl (Op1.assign (.int (inR64.2 (by omega)))) ?_
  refine WL.nil ?_
  refine WN.seq ?_
  refine W.seq ?_
  refine W.region ?_
  refine WL.op rfl (Op1.move (.tmp rfl)) ?_
  refine WL.op rfl (Op1.move (.tmp rfl)) ?_
  refine WL.op rfl (Op1.move (.tmp rfl)) ?_
  refine WL.op rfl (Op1.move (.tmp rfl)) ?_
  refine WL.op rfl (Op1.move (.tmp rfl)) ?_
  obtain ⟨chosen, hv1, hm⟩ := bind_some hm
  refine WL.op rfl (Op1.call Try.call27 (wordseq_chosen_spec _ _ _ _ _ hv1) ⟨(.tmp rfl), (.tmp rfl), (.tmp rfl), trivial⟩) ?_
  refine WL.op rfl (Op1.makeFunc (ok := (fun s : (List Str) × ((List Str)) => (fun s0 => M.wordseq_Replace_1 s0 fresh) s.1 = some s.2)) (As := (fun s : (List Str) × ((List Str)) => [(tL tS).is s.1])) (A := (fun s : (List Str) × ((List Str)) => ((tL tS).is s.2))) (Cs := [((tL tS).ptr fresh)]) (cap := [.tmp 6]) Try.call28 ⟨(.tmp rfl), trivial⟩ (fun s hs => wordseq_Replace_1_spec _ _ _ hs)) ?_
  obtain ⟨each, hv2, hm⟩ := bind_some hm
  refine WL.op rfl (Op1.call Try.call26 (wordseq_each_spec _ _ _ _ _ _ hv2) ⟨(.tmp rfl), (.tmp rfl), (.tmp rfl), (.tmp rfl), trivial⟩) ?_
  refine WL.op rfl (Op1.extract0 (.tmp rfl)) ?_
  refine WL.op rfl (Op1.extract1 (.tmp rfl)) ?_
  refine WL.op rfl (Op1.assign (.tmp rfl)) ?_
  refine WL.op rfl (Op1.assign (.tmp rfl)) ?_
  refine WL.nil ?_
  refine WN.seq ?_
  have hr := Option.some.inj hm
  clear hm
  subst hr
  exact W.ret2 () rfl rfl (.tmp rfl) (.tmp rfl) trivial

theorem slices_Clone_string_string_spec (l : List Str) (r : List Str) (hm : M.slices_Clone_string_string l = some r) : FSpecR Try.prog 31 [(tL tS).is l] [] (fun k : Tok => tO tS k r) (fun k => [(5, Own tS 9 k r.length)]) := by
  unfold M.slices_Clone_string_string at hm
  refine FSpecR.of Try.func31 rfl rfl rfl (fun g0 => ?_)
  refine W.seq ?_
  refine W.region ?_
  refine WL.op rfl (Op1.assign (.nil (t := tS))) ?_
  refine WL.nil ?_
  refine WN.seq ?_
  refine W.seq ?_
  refine W.seq ?_
  refine W.region ?_
  refine WL.op rfl (Op1.move (.tmp rfl)) ?_
  refine WL.opR rfl (OpR.eqNil Try.underlying22 (.tmp rfl)) (fun b => ?_)
  refine WL.nil ?_
  refine WN.seq ?_
  refine W.cond (.tmp rfl) (fun hc => ?_) (fun hc => ?_)
  · have hl := b.2 hc
    subst hl
    have hr : [] = r := by simpa [appC] using hm
    subst hr
    refine W.seq ?_
    refine W.region ?_
    refine WL.addNil (t := tS) (E := 9) 5 ?_
    refine WL.op rfl (Op1.assign (Opd.nilO (t := tS))) ?_
    refine WL.nil ?_
    refine WN.seq ?_
    exact W.ret1 (none : Tok) rfl (.tmp rfl) ⟨rfl, rfl, trivial⟩
  · refine W.skip ?_
    refine WN.seq ?_
    refine W.seq ?_
    refine W.region ?_
    refine WL.opR rfl (OpR.buildSlice (n := 0) (ys := []) (z := ([] : Str)) (xs := []) 5 Try.underlying22 el9 ze9 trivial (by simp) (by decide) rfl) (fun k5 => ?_)
    refine WL.op rfl (Op1.move (.tmp rfl)) ?_
    refine WL.opR rfl (OpR.appC (key := 5) hm Try.underlying22 el9 (.tmp rfl) (.tmp rfl) rfl) (fun k7 => ?_)
    refine WL.op rfl (Op1.assign (.tmp rfl)) ?_
    refine WL.nil ?_
    refine WN.seq ?_
    exact W.ret1 k7 rfl (.tmp rfl) ⟨rfl, rfl, trivial⟩

theorem slices_Grow_string_string_spec (n : Int) {x : Unit} (hm : growC n = some x) : FSpecR Try.prog 39 [tO tS none [], (tI .i64).is n] [] (fun k : Tok => tO tS k []) (fun k => [(22, Own tS 9 k 0)]) := by
  have hn : 0 ≤ n ∧ n ≤ 274877906944 := by unfold growC at hm; split at hm; assumption; cases hm
  clear hm
  have e1 : n - ((0 : Int) - 0) = n := by omega
  refine FSpecR.of Try.func39 rfl rfl rfl (fun g0 => ?_)
  refine W.seq ?_
  refine W.region ?_
  refine WL.op rfl (Op1.assign (.nil (t := tS))) ?_
  refine WL.nil ?_
  refine WN.seq ?_
  refine W.seq ?_
  refine W.seq ?_
  refine W.region ?_
  refine WL.op rfl (Op1.move (.tmp rfl)) ?_
  refine WL.op rfl (Op1.ltI (.tmp rfl) (.int (inR64.2 (by omega)))) ?_
  refine WL.nil ?_
  refine WN.seq ?_
  refine W.cond (.tmp rfl) (fun hc => ?_) (fun hc => ?_)
  · exact absurd (of_decide_eq_true hc) (by omega)
  · refine W.skip ?_
    refine WN.seq ?_
    refine W.seq ?_
    refine W.seq ?_
    refine W.region ?_
    refine WL.op rfl (Op1.move (.tmp rfl)) ?_
    refine WL.op rfl (Op1.move (.tmp rfl)) ?_
    refine WL.op rfl (Op1.capNil Try.underlying22 (.tmp rfl)) ?_
    refine WL.op rfl (Op1.move (.tmp rfl)) ?_
    refine WL.op rfl (Op1.lenL Try.underlying22 (Opd.own (.tmp rfl))) ?_
    refine WL.op rfl (Op1.subI (.tmp rfl) (.tmp rfl) (inR64.2 (by simp))) ?_
    refine WL.op rfl (Op1.subI (.tmp rfl) (.tmp rfl) (inR64.2 (by simp; omega))) ?_
    refine WL.op rfl (Op1.assign (.tmp rfl)) ?_
    refine WL.nil ?_
    refine WN.seq ?_
    refine W.seq ?_
    refine W.region ?_
    refine WL.op rfl (Op1.move (.tmp rfl)) ?_
    refine WL.op rfl (Op1.gtI (.tmp rfl) (.int (inR64.2 (by omega)))) ?_
    refine WL.nil ?_
    refine WN.seq ?_
    refine W.cond (.tmp rfl) (fun hc2 => ?_) (fun hc2 => ?_)
    · have hp := of_decide_eq_true hc2
      refine W.region ?_
      refine WL.op rfl (Op1.move (.tmp rfl)) ?_
      refine WL.op rfl (Op1.move (.tmp rfl)) ?_
      refine WL.op rfl (Op1.capNil Try.underlying22 (.tmp rfl)) ?_
      refine WL.op rfl (Op1.sliceNilHi (t := tS) Try.underlying22 Try.sizeOf9 (.tmp rfl) (.tmp rfl)) ?_
      refine WL.op rfl (Op1.move (.tmp rfl)) ?_
      refine WL.opR rfl (OpR.growNil (key := 22) Try.underlying22 Try.underlying3 el9 (.tmp rfl) (.tmp rfl) hp (by simp; omega)) (fun k => ?_)
      refine WL.op rfl (Op1.move (.tmp rfl)) ?_
      refine WL.op rfl (Op1.lenL Try.underlying22 (Opd.own (.tmp rfl))) ?_
      refine WL.op rfl (Op1.rawHi (t := tS) Try.underlying22 Try.sizeOf9 (.tmp rfl) (.tmp rfl)) ?_
      refine WL.op rfl (Op1.assign (.tmp rfl)) ?_
      refine WL.nil ?_
      refine WN.seq ?_
      refine W.seq ?_
      refine W.region ?_
      refine WL.op rfl (Op1.move (.tmp rfl)) ?_
      refine WL.op rfl (Op1.assign (.tmp rfl)) ?_
      refine WL.nil ?_
      refine WN.seq ?_
      exact W.ret1 k rfl (.tmp rfl) ⟨rfl, rfl, trivial⟩
    · refine W.skip ?_
      refine WN.seq ?_
      refine W.seq ?_
      refine W.region ?_
      refine WL.addNil (t := tS) (E := 9) 22 ?_
      refine WL.op rfl (Op1.move (.tmp rfl)) ?_
      refine WL.op rfl (Op1.assign (.tmp rfl)) ?_
      refine WL.nil ?_
      refine WN.seq ?_
      exact W.ret1 (none : Tok) rfl (.tmp rfl) ⟨rfl, rfl, trivial⟩

theorem slices_Concat_string_string_spec (n : Nat) (slices : List (List Str)) (r : (List Str)) (hm : M.slices_Concat_string_string n slices = some r) : FSpecR Try.prog 32 [((tL (tL tS)).is slices)] [] (fun k : Tok => tO tS k r) (fun k => [(24, Own tS 9 k r.length)]) := by
  unfold M.slices_Concat_string_string at hm
  refine FSpecR.of Try.func32 rfl rfl rfl (fun g0 => ?_)
  refine W.seq ?_
  refine W.region ?_
  refine WL.addNil (t := tS) (E := 9) 2 ?_
  refine WL.op rfl (Op1.assign (Opd.nilO (t := tS))) ?_
  refine WL.nil ?_
  refine WN.seq ?_
  refine W.seq ?_
  refine W.region ?_
  refine WL.op rfl (Op1.assign (.int (inR64.2 (by omega)))) ?_
  refine WL.nil ?_
  refine WN.seq ?_
  refine W.seq ?_
  refine W.seq ?_
  refine W.region ?_
  refine WL.op rfl (Op1.move (.tmp rfl)) ?_
  refine WL.op rfl (Op1.lenL Try.underlying38 (.tmp rfl)) ?_
  refine WL.op rfl (Op1.move (.int (inR64.2 (by omega)))) ?_
  refine WL.nil ?_
  refine WN.seq ?_
  refine W.block ?_
  obtain ⟨s1, hs2, hk3⟩ := bind_some hm
  clear hm
  refine W.loop (fun m (s : Int × Int) => M.slices_Concat_string_string_loop1 slices m s.1 s.2 = some s1) (fun s => [(3, ((tI .i64).is s.1)), (11, ((tI .i64).is s.2)), (0, ((tL (tL tS)).is slices)), (9, ((tL (tL tS)).is slices)), (10, ((tI .i64).is (slices.length : Int)))]) (fun s => []) _ ((0 : Int), (0 : Int)) hs2 ⟨Ent.q rfl, Ent.q rfl, Ent.q rfl, Ent.q rfl, Ent.q rfl, trivial⟩ trivial ?_
  rintro n4 ⟨size, v⟩ hm
  try dsimp only at hm
  change W _ _ _ _ _ _ _ [(3, ((tI .i64).is size)), (11, ((tI .i64).is v)), (0, ((tL (tL tS)).is slices)), (9, ((tL (tL tS)).is slices)), (10, ((tI .i64).is (slices.length : Int)))] []
  cases n4 with
  | zero => rw [M.slices_Concat_string_string_loop1.eq_1] at hm; cases hm
  | succ n4 =>
    rw [M.slices_Concat_string_string_loop1.eq_2] at hm
    refine W.seq ?_
    refine W.region ?_
    refine WL.op rfl (Op1.ltI (.tmp rfl) (.tmp rfl)) ?_
    refine WL.nil ?_
    refine WN.seq ?_
    refine W.seq ?_
    refine W.cond (.tmp rfl) (fun hc5 => ?_) (fun hc5 => ?_)
    · have hp6 := of_decide_eq_true hc5
      rw [if_pos hp6] at hm
      refine W.skip ?_
      refine WN.seq ?_
      refine W.seq ?_
      refine W.block ?_
      refine W.seq ?_
      refine W.region ?_
      obtain ⟨v1, hv7, hm⟩ := bind_some hm
      refine WL.op rfl (Op1.idx hv7 Try.underlying38 Try.sizeOf22 (.tmp rfl) (.tmp rfl)) ?_
      refine WL.op rfl (Op1.load ty22 (.tmp rfl)) ?_
      refine WL.op rfl (Op1.assign (.tmp rfl)) ?_
      refine WL.nil ?_
      refine WN.seq ?_
      refine W.seq ?_
      refine W.region ?_
      refine WL.op rfl (Op1.move (.tmp rfl)) ?_
      refine WL.op rfl (Op1.move (.tmp rfl)) ?_
      refine WL.op rfl (Op1.lenL Try.underlying22 (.tmp rfl)) ?_
      obtain ⟨v2, hv8, hm⟩ := bind_some hm
      refine WL.op rfl (Op1.addC hv8 (.tmp rfl) (.tmp rfl)) ?_
      refine WL.op rfl (Op1.assign (.tmp rfl)) ?_
      refine WL.nil ?_
      refine WN.seq ?_
      refine W.seq ?_
      refine W.region ?_
      refine WL.op rfl (Op1.move (.tmp rfl)) ?_
      refine WL.op rfl (Op1.ltI (.tmp rfl) (.int (inR64.2 (by omega)))) ?_
      refine WL.nil ?_
      refine WN.seq ?_
      refine W.cond (.tmp rfl) (fun hc9 => ?_) (fun hc9 => ?_)
      · have hp10 := of_decide_eq_true hc9
        rw [if_pos hp10] at hm
        cases hm
      · have hp10 := of_decide_eq_false hc9
        rw [if_neg hp10] at hm
        refine W.skip ?_
        refine WN.block ?_
        refine WN.seq ?_
        refine W.region ?_
        refine WL.lenL (s := 0) (.tmp rfl) fun hl11 => ?_
        refine WL.op rfl (Op1.addI1 (.tmp rfl) (.int (inR64.2 (by omega))) hp6 hl11) ?_
        refine WL.op rfl (Op1.move (.tmp rfl)) ?_
        refine WL.nil ?_
        exact WN.again n4 (v2, v + 1) (Nat.lt_succ_self n4) hm ⟨Ent.q rfl, Ent.q rfl, Ent.q rfl, Ent.q rfl, Ent.q rfl, trivial⟩ trivial
    · have hp6 := of_decide_eq_false hc5
      rw [if_neg hp6] at hm
      refine W.exit rfl ?_
      have hr12 := Option.some.inj hm
      clear hm
      subst hr12
      have hm := hk3
      try dsimp only at hm
      refine WN.seq ?_
      refine W.seq ?_
      refine W.region ?_
      refine WL.op rfl (Op1.move (.tmp rfl)) ?_
      obtain ⟨_, hv13, hm⟩ := bind_some hm
      refine WL.opR rfl (OpR.call (us := []) Try.call39 ((slices_Grow_string_string_spec _ hv13).rekey 24) rfl ⟨Opd.nilO, (.tmp rfl), trivial⟩) (fun k => ?_)
      refine WL.op rfl (Op1.assign (.tmp rfl)) ?_
      refine WL.nil ?_
      refine WN.seq ?_
      refine W.seq ?_
      refine W.seq ?_
      refine W.region ?_
      refine WL.op rfl (Op1.move (.tmp rfl)) ?_
      refine WL.op rfl (Op1.lenL Try.underlying38 (.tmp rfl)) ?_
      refine WL.op rfl (Op1.move (.int (inR64.2 (by omega)))) ?_
      refine WL.nil ?_
      refine WN.seq ?_
      refine W.block ?_
      obtain ⟨s14, hs15, hk16⟩ := bind_some hm
      clear hm
      refine W.loop (fun m (s : ((List Str) × Int) × Tok) => M.slices_Concat_string_string_loop2 slices m s.1.1 s.1.2 = some s14) (fun s => [(6, (tO tS s.2 s.1.1)), (27, ((tI .i64).is s.1.2)), (25, ((tL (tL tS)).is slices)), (26, ((tI .i64).is (slices.length : Int)))]) (fun s => [(24, Own tS 9 s.2 s.1.1.length)]) _ ((([] : List Str), (0 : Int)), k) hs15 ⟨Ent.q rfl, Ent.q rfl, Ent.q rfl, Ent.q rfl, trivial⟩ ⟨rfl, rfl, trivial⟩ ?_
      rintro n17 ⟨⟨newslice, v3⟩, k1⟩ hm
      try dsimp only at hm
      change W _ _ _ _ _ _ _ [(6, (tO tS k1 newslice)), (27, ((tI .i64).is v3)), (25, ((tL (tL tS)).is slices)), (26, ((tI .i64).is (slices.length : Int)))] [(24, Own tS 9 k1 newslice.length)]
      cases n17 with
      | zero => rw [M.slices_Concat_string_string_loop2.eq_1] at hm; cases hm
      | succ n17 =>
        rw [M.slices_Concat_string_string_loop2.eq_2] at hm
        refine W.seq ?_
        refine W.region ?_
        refine WL.op rfl (Op1.ltI (.tmp rfl) (.tmp rfl)) ?_
        refine WL.nil ?_
        refine WN.seq ?_
        refine W.seq ?_
        refine W.cond (.tmp rfl) (fun hc18 => ?_) (fun hc18 => ?_)
        · have hp19 := of_decide_eq_true hc18
          rw [if_pos hp19] at hm
          refine W.skip ?_
          refine WN.seq ?_
          refine W.seq ?_
          refine W.block ?_
          refine W.seq ?_
          refine W.region ?_
          obtain ⟨v4, hv20, hm⟩ := bind_some hm
          refine WL.op rfl (Op1.idx hv20 Try.underlying38 Try.sizeOf22 (.tmp rfl) (.tmp rfl)) ?_
          refine WL.op rfl (Op1.load ty22 (.tmp rfl)) ?_
          refine WL.op rfl (Op1.assign (.tmp rfl)) ?_
          refine WL.nil ?_
          refine WN.seq ?_
          refine W.region ?_
          refine WL.op rfl (Op1.move (.tmp rfl)) ?_
          refine WL.op rfl (Op1.move (.tmp rfl)) ?_
          obtain ⟨out, hv21, hm⟩ := bind_some hm
          refine WL.opR rfl (OpR.appC (key := 24) hv21 Try.underlying22 el9 (.tmp rfl) (.tmp rfl) rfl) (fun k2 => ?_)
          refine WL.op rfl (Op1.assign (.tmp rfl)) ?_
          refine WL.nil ?_
          refine WN.block ?_
          refine WN.seq ?_
          refine W.region ?_
          refine WL.lenL (s := 25) (.tmp rfl) fun hl22 => ?_
          refine WL.op rfl (Op1.addI1 (.tmp rfl) (.int (inR64.2 (by omega))) hp19 hl22) ?_
          refine WL.op rfl (Op1.move (.tmp rfl)) ?_
          refine WL.nil ?_
          exact WN.again n17 ((out, v3 + 1), k2) (Nat.lt_succ_self n17) hm ⟨Ent.q rfl, Ent.q rfl, Ent.q rfl, Ent.q rfl, trivial⟩ ⟨rfl, rfl, trivial⟩
        · have hp19 := of_decide_eq_false hc18
          rw [if_neg hp19] at hm
          refine W.exit rfl ?_
          have hr23 := Option.some.inj hm
          clear hm
          subst hr23
          have hm := hk16
          try dsimp only at hm
          refine WN.seq ?_
          refine W.seq ?_
          refine W.region ?_
          refine WL.op rfl (Op1.move (.tmp rfl)) ?_
          refine WL.op rfl (Op1.assign (.tmp rfl)) ?_
          refine WL.nil ?_
          refine WN.seq ?_
          have hr := Option.some.inj hm
          clear hm
          subst hr
          exact W.ret1 k1 rfl (.tmp rfl) ⟨rfl, rfl, trivial⟩

theorem wordseq_InsertAfter_1_spec (n : Nat) (found : List Str) (c : List Str) (r : (List Str)) (hm : M.wordseq_InsertAfter_1 n found c = some r) : FSpec Try.prog 33 [((tL tS).is found), ((tL tS).ptr c)] ((tL tS).is r) := by
  unfold M.wordseq_InsertAfter_1 at hm
  refine FSpec.of Try.func33 rfl rfl rfl (fun g0 => ?_)
  refine W.seq ?_
  refine W.region ?_
  refine WL.op rfl (Op1.assign (.nil (t := tS))) ?_
  refine WL.nil ?_
  refine WN.seq ?_
  refine W.seq ?_
  refine W.region ?_
  refine WL.op rfl (Op1.move (.tmp rfl)) ?_
  refine WL.op rfl (Op1.load ty22 (.tmp rfl)) ?_
  refine WL.op rfl (Op1.buildSlice (n := 2) (ys := [(0, found), (1, c)]) (z := ([] : List Str)) (xs := [found, c]) Try.underlying38 el22 ze22 ⟨rfl, (.tmp rfl), rfl, (.tmp rfl), trivial⟩ (by simp) (by decide) rfl) ?_
  obtain ⟨string, hv1, hm⟩ := bind_some hm
  refine WL.op rfl (Op1.call Try.call32 ((slices_Concat_string_string_spec _ _ _ hv1).read fun _ _ _ => tO_tL) ⟨(.tmp rfl), trivial⟩) ?_
  refine WL.op rfl (Op1.assign (.tmp rfl)) ?_
  refine WL.nil ?_
  refine WN.seq ?_
  have hr := Option.some.inj hm
  clear hm
  subst hr
  exact W.ret1 () rfl (.tmp rfl) trivial

theorem wordseq_InsertAfter_spec (n : Nat) (l : List Str) (part : List Str) (fresh : List Str) (nth : Int) (r : (List Str) × Int) (hm : M.wordseq_InsertAfter n l part fresh nth = some r) : FSpec Try.prog 16 [((tL tS).is l), ((tL tS).is part), ((tL tS).is fresh), ((tI .i64).is nth)] (Asn.tuple2 ((tL tS).is r.1) ((tI .i64).is r.2)) := by
  unfold M.wordseq_InsertAfter at hm
  refine FSpec.of Try.func16 rfl rfl rfl (fun g0 => ?_)
  refine W.seq ?_
  refine W.region ?_
  refine WL.op rfl (Op1.box (.tmp rfl)) ?_
  refine WL.op rfl (Op1.assign (.nil (t := tS))) ?_
  refine WL.op rfl (Op1.assign (.int (inR64.2 (by omega)))) ?_
  refine WL.nil ?_
  refine WN.seq ?_
  refine W.seq ?_
  refine W.seq ?_
  refine W.region ?_
  refine WL.op rfl (Op1.move (.tmp rfl)) ?_
  refine WL.op rfl (Op1.lenL Try.underlying22 (.tmp rfl)) ?_
  refine WL.op rfl (Op1.eqI (.tmp rfl) (.int (inR64.2 (by omega)))) ?_
  refine WL.nil ?_
  refine WN.seq ?_
  refine W.cond (.tmp rfl) (fun hc1 => ?_) (fun hc1 => ?_)
  · have hp2 := of_decide_eq_true hc1
    rw [if_pos hp2] at hm
    refine W.seq ?_
    refine W.seq ?_
    refine W.region ?_
    refine WL.op rfl (Op1.move (.tmp rfl)) ?_
    refine WL.op rfl (Op1.neI (.tmp rfl) (.int (inR64.2 (by omega)))) ?_
    refine WL.nil ?_
    refine WN.seq ?_
    refine W.cond (.tmp rfl) (fun hc3 => ?_) (fun hc3 => ?_)
    · have hp4 := of_decide_eq_true hc3
      rw [if_pos hp4] at hm
      refine W.seq ?_
      refine W.region ?_
      refine WL.op rfl (Op1.move (.tmp rfl)) ?_
      obtain ⟨string, hv5, hm⟩ := bind_some hm
      refine WL.op rfl (Op1.call Try.call31 ((slices_Clone_string_string_spec _ _ hv5).read fun _ _ _ => tO_tL) ⟨(.tmp rfl), trivial⟩) ?_
      refine WL.op rfl (Op1.assign (.tmp rfl)) ?_
      refine WL.op rfl (Op1.assign (.int (inR64.2 (by omega)))) ?_
      refine WL.nil ?_
      refine WN.seq ?_
      have hr := Option.some.inj hm
      clear hm
      subst hr
      exact W.ret2 () rfl rfl (.tmp rfl) (.tmp rfl) trivial
    · have hp4 := of_decide_eq_false hc3
      rw [if_neg hp4] at hm
      refine W.skip ?_
      refine WN.seq ?_
      refine W.seq ?_
      refine W.region ?_
      refine WL.op rfl (Op1.load ty22 (.tmp rfl)) ?_
      refine WL.op rfl (Op1.move (.tmp rfl)) ?_
      refine WL.op rfl (Op1.buildSlice (n := 2) (ys := [(0, fresh), (1, l)]) (z := ([] : List Str)) (xs := [fresh, l]) Try.underlying38 el22 ze22 ⟨rfl, (.tmp rfl), rfl, (.tmp rfl), trivial⟩ (by simp) (by decide) rfl) ?_
      obtain ⟨string1, hv6, hm⟩ := bind_some hm
      refine WL.op rfl (Op1.call Try.call32 ((slices_Concat_string_string_spec _ _ _ hv6).read fun _ _ _ => tO_tL) ⟨(.tmp rfl), trivial⟩) ?_
      refine WL.op rfl (Op1.assign (.tmp rfl)) ?_
      refine WL.op rfl (Op1.assign (.int (inR64.2 (by omega)))) ?_
      refine WL.nil ?_
      refine WN.seq ?_
      have hr := Option.some.inj hm
      clear hm
      subst hr
      exact W.ret2 () rfl rfl (.tmp rfl) (.tmp rfl) trivial
  · have hp2 := of_decide_eq_false hc1
    rw [if_neg hp2] at hm
    refine W.skip ?_
    refine WN.seq ?_
    refine W.seq ?_
    refine W.region ?_
    refine WL.op rfl (Op1.move (.tmp rfl)) ?_
    refine WL.op rfl (Op1.move (.tmp rfl)) ?_
    refine WL.op rfl (Op1.move (.tmp rfl)) ?_
    refine WL.op rfl (Op1.move (.tmp rfl)) ?_
    refine WL.op rfl (Op1.move (.tmp rfl)) ?_
    obtain ⟨chosen, hv7, hm⟩ := bind_some hm
    refine WL.op rfl (Op1.call Try.call27 (wordseq_chosen_spec _ _ _ _ _ hv7) ⟨(.tmp rfl), (.tmp rfl), (.tmp rfl), trivial⟩) ?_
    refine WL.op rfl (Op1.makeFunc (ok := (fun s : (List Str) × ((List Str)) => (fun s0 => M.wordseq_InsertAfter_1 n s0 fresh) s.1 = some s.2)) (As := (fun s : (List Str) × ((List Str)) => [(tL tS).is s.1])) (A := (fun s : (List Str) × ((List Str)) => ((tL tS).is s.2))) (Cs := [((tL tS).ptr fresh)]) (cap := [.tmp 6]) Try.call33 ⟨(.tmp rfl), trivial⟩ (fun s hs => wordseq_InsertAfter_1_spec _ _ _ _ hs)) ?_
    obtain ⟨each, hv8, hm⟩ := bind_some hm
    refine WL.op rfl (Op1.call Try.call26 (wordseq_each_spec _ _ _ _ _ _ hv8) ⟨(.tmp rfl), (.tmp rfl), (.tmp rfl), (.tmp rfl), trivial⟩) ?_
    refine WL.op rfl (Op1.extract0 (.tmp rfl)) ?_
    refine WL.op rfl (Op1.extract1 (.tmp rfl)) ?_
    refine WL.op rfl (Op1.assign (.tmp rfl)) ?_
    refine WL.op rfl (Op1.assign (.tmp rfl)) ?_
    refine WL.nil ?_
    refine WN.seq ?_
    have hr := Option.some.inj hm
    clear hm
    subst hr
    exact W.ret2 () rfl rfl (.tmp rfl) (.tmp rfl) trivial

theorem r04_Same_spec (n : Nat) (a : List Str) (b : List Str) (r : Bool) (hm : M.r04_Same n a b = some r) : FSpec Try.prog 15 [((tL tS).is a), ((tL tS).is b)] (tB.is r) := by
  unfold M.r04_Same at hm
  refine FSpec.of Try.func15 rfl rfl rfl (fun g0 => ?_)
  refine W.seq ?_
  refine W.region ?_
  refine WL.op rfl (Op1.assign .bool) ?_
  refine WL.nil ?_
  refine WN.seq ?_
  refine W.seq ?_
  refine W.seq ?_
  refine W.region ?_
  refine WL.op rfl (Op1.move (.tmp rfl)) ?_
  refine WL.op rfl (Op1.lenL Try.underlying22 (.tmp rfl)) ?_
  refine WL.op rfl (Op1.move (.tmp rfl)) ?_
  refine WL.op rfl (Op1.lenL Try.underlying22 (.tmp rfl)) ?_
  refine WL.op rfl (Op1.neI (.tmp rfl) (.tmp rfl)) ?_
  refine WL.nil ?_
  refine WN.seq ?_
  refine W.cond (.tmp rfl) (fun hc1 => ?_) (fun hc1 => ?_)
  · have hp2 := of_decide_eq_true hc1
    rw [if_pos hp2] at hm
    refine W.seq ?_
    refine W.region ?_
    refine WL.op rfl (Op1.assign .bool) ?_
    refine WL.nil ?_
    refine WN.seq ?_
    have hr := Option.some.inj hm
    clear hm
    subst hr
    exact W.ret1 () rfl (.tmp rfl) trivial
  · have hp2 := of_decide_eq_false hc1
    rw [if_neg hp2] at hm
    refine W.skip ?_
    refine WN.seq ?_
    refine W.seq ?_
    refine W.seq ?_
    refine W.region ?_
    refine WL.op rfl (Op1.assign (.int (inR64.2 (by omega)))) ?_
    refine WL.nil ?_
    refine WN.seq ?_
    refine W.block ?_
    obtain ⟨s3, hs4, hk5⟩ := bind_some hm
    clear hm
    refine W.loop (fun m (s : Int) => M.r04_Same_loop1 a b m s = some s3) (fun s => [(5, ((tI .i64).is s)), (0, ((tL tS).is a)), (1, ((tL tS).is b))]) (fun s => []) _ (0 : Int) hs4 ⟨Ent.q rfl, Ent.q rfl, Ent.q rfl, trivial⟩ trivial ?_
    rintro n6 i hm
    try dsimp only at hm
    change W _ _ _ _ _ _ _ [(5, ((tI .i64).is i)), (0, ((tL tS).is a)), (1, ((tL tS).is b))] []
    cases n6 with
    | zero => rw [M.r04_Same_loop1.eq_1] at hm; cases hm
    | succ n6 =>
      rw [M.r04_Same_loop1.eq_2] at hm
      refine W.seq ?_
      refine W.seq ?_
      refine W.region ?_
      refine WL.op rfl (Op1.move (.tmp rfl)) ?_
      refine WL.op rfl (Op1.move (.tmp rfl)) ?_
      refine WL.op rfl (Op1.lenL Try.underlying22 (.tmp rfl)) ?_
      refine WL.op rfl (Op1.ltI (.tmp rfl) (.tmp rfl)) ?_
      refine WL.nil ?_
      refine WN.seq ?_
      refine W.cond (.tmp rfl) (fun hc7 => ?_) (fun hc7 => ?_)
      · have hp8 := of_decide_eq_true hc7
        rw [if_pos hp8] at hm
        refine W.skip ?_
        refine WN.seq ?_
        refine W.seq ?_
        refine W.block ?_
        refine W.seq ?_
        obtain ⟨v, hv9, hm⟩ := bind_some hm
        obtain ⟨v1, hv10, hm⟩ := bind_some hm
        refine W.draw [.c ((tL tS).is a), .c ((tI .i64).is i), .c (tS.ptr v), .c (tS.is v), .c ((tL tS).is b), .c ((tI .i64).is i), .c (tS.ptr v1), .c (tS.is v1), .c (tB.is (v != v1))] [([], [0]), ([], [5]), ([0, 1], []), ([2], []), ([], [1]), ([], [5]), ([4, 5], []), ([6], []), ([3, 7], [])] Try.mixed rfl rfl rfl rfl ⟨.inr (Op1.move (.tmp rfl)), .inr (Op1.move (.tmp rfl)), .inr (Op1.idx hv9 Try.underlying22 Try.sizeOf9 (.tmp rfl) (.tmp rfl)), .inr (Op1.load ty9 (.tmp rfl)), .inr (Op1.move (.tmp rfl)), .inr (Op1.move (.tmp rfl)), .inr (Op1.idx hv10 Try.underlying22 Try.sizeOf9 (.tmp rfl) (.tmp rfl)), .inr (Op1.load ty9 (.tmp rfl)), .inr (Op1.neS (.tmp rfl) (.tmp rfl)), trivial⟩ ?_
        refine WN.seq ?_
        refine W.cond (.tmp rfl) (fun hc11 => ?_) (fun hc11 => ?_)
        · have hp12 := hc11
          rw [if_pos hp12] at hm
          refine W.seq ?_
          refine W.region ?_
          refine WL.op rfl (Op1.assign .bool) ?_
          refine WL.nil ?_
          refine WN.seq ?_
          have hr13 := Option.some.inj hm
          clear hm
          subst hr13
          have hm := hk5
          try dsimp only at hm
          have hr := Option.some.inj hm
          clear hm
          subst hr
          exact W.ret1 () rfl (.tmp rfl) trivial
        · have hp12 := ne_of_false hc11
          rw [if_neg hp12] at hm
          refine W.skip ?_
          refine WN.block ?_
          refine WN.seq ?_
          refine W.region ?_
          refine WL.op rfl (Op1.move (.tmp rfl)) ?_
          refine WL.lenL (s := 0) (.tmp rfl) fun hl14 => ?_
          refine WL.op rfl (Op1.addI1 (.tmp rfl) (.int (inR64.2 (by omega))) hp8 hl14) ?_
          refine WL.op rfl (Op1.assign (.tmp rfl)) ?_
          refine WL.nil ?_
          exact WN.again n6 (i + 1) (Nat.lt_succ_self n6) hm ⟨Ent.q rfl, Ent.q rfl, Ent.q rfl, trivial⟩ trivial
      · have hp8 := of_decide_eq_false hc7
        rw [if_neg hp8] at hm
        refine W.exit rfl ?_
        have hr15 := Option.some.inj hm
        clear hm
        subst hr15
        have hm := hk5
        try dsimp only at hm
        refine WN.seq ?_
        refine W.seq ?_
        refine W.region ?_
        refine WL.op rfl (Op1.assign .bool) ?_
        refine WL.nil ?_
        refine WN.seq ?_
        have hr := Option.some.inj hm
        clear hm
        subst hr
        exact W.ret1 () rfl (.tmp rfl) trivial

theorem law04_awake_spec (n : Nat)  (r : Bool) (hm : M.law04_awake n  = some r) : FSpec Try.prog 10 [] (tB.is r) := by
  unfold M.law04_awake at hm
  refine FSpec.of Try.func10 rfl rfl rfl (fun g0 => ?_)
  refine W.seq ?_
  refine W.region ?_
  refine WL.op rfl (Op1.assign .bool) ?_
  refine WL.nil ?_
  refine WN.seq ?_
  refine W.seq ?_
  refine W.region ?_
  refine WL.op rfl (Op1.buildSlice (n := 6) (ys := [(0, ([97] : Str)), (1, ([97] : Str)), (2, ([97] : Str)), (3, ([98] : Str)), (4, ([97] : Str)), (5, ([97] : Str))]) (z := ([] : Str)) (xs := [([97] : Str), ([97] : Str), ([97] : Str), ([98] : Str), ([97] : Str), ([97] : Str)]) Try.underlying22 el9 ze9 ⟨rfl, (.str rfl (by decide)), rfl, (.str rfl (by decide)), rfl, (.str rfl (by decide)), rfl, (.str rfl (by decide)), rfl, (.str rfl (by decide)), rfl, (.str rfl (by decide)), trivial⟩ (by simp) (by decide) rfl) ?_
  refine WL.op rfl (Op1.buildSlice (n := 2) (ys := [(0, ([97] : Str)), (1, ([97] : Str))]) (z := ([] : Str)) (xs := [([97] : Str), ([97] : Str)]) Try.underlying22 el9 ze9 ⟨rfl, (.str rfl (by decide)), rfl, (.str rfl (by decide)), trivial⟩ (by simp) (by decide) rfl) ?_
  obtain ⟨findal, hv1, hm⟩ := bind_some hm
  refine WL.op rfl (Op1.call Try.call11 ((wordseq_FindAll_spec _ _ _ _ hv1).read fun _ _ _ => tO_tL) ⟨(.tmp rfl), (.tmp rfl), trivial⟩) ?_
  refine WL.op rfl (Op1.assign (.tmp rfl)) ?_
  refine WL.nil ?_
  refine WN.seq ?_
  refine W.seq ?_
  refine W.region ?_
  refine WL.op rfl (Op1.buildSlice (n := 3) (ys := [(0, ([97] : Str)), (1, ([98] : Str)), (2, ([98] : Str))]) (z := ([] : Str)) (xs := [([97] : Str), ([98] : Str), ([98] : Str)]) Try.underlying22 el9 ze9 ⟨rfl, (.str rfl (by decide)), rfl, (.str rfl (by decide)), rfl, (.str rfl (by decide)), trivial⟩ (by simp) (by decide) rfl) ?_
  refine WL.op rfl (Op1.buildSlice (n := 1) (ys := [(0, ([98] : Str))]) (z := ([] : Str)) (xs := [([98] : Str)]) Try.underlying22 el9 ze9 ⟨rfl, (.str rfl (by decide)), trivial⟩ (by simp) (by decide) rfl) ?_
  refine WL.op rfl (Op1.buildSlice (n := 2) (ys := [(0, ([99] : Str)), (1, ([100] : Str))]) (z := ([] : Str)) (xs := [([99] : Str), ([100] : Str)]) Try.underlying22 el9 ze9 ⟨rfl, (.str rfl (by decide)), rfl, (.str rfl (by decide)), trivial⟩ (by simp) (by decide) rfl) ?_
  obtain ⟨replac, hv2, hm⟩ := bind_some hm
  refine WL.op rfl (Op1.call Try.call13 (wordseq_Replace_spec _ _ _ _ _ _ hv2) ⟨(.tmp rfl), (.tmp rfl), (.tmp rfl), (.int (inR64.2 (by omega))), trivial⟩) ?_
  refine WL.op rfl (Op1.move (.tmp rfl)) ?_
  refine WL.op rfl (Op1.extract0 (.tmp rfl)) ?_
  refine WL.op rfl (Op1.extract1 (.tmp rfl)) ?_
  refine WL.op rfl (Op1.assign (.tmp rfl)) ?_
  refine WL.op rfl (Op1.assign (.tmp rfl)) ?_
  refine WL.nil ?_
  refine WN.seq ?_
  refine W.seq ?_
  refine W.region ?_
  refine WL.op rfl (Op1.buildSlice (n := 1) (ys := [(0, ([97] : Str))]) (z := ([] : Str)) (xs := [([97] : Str)]) Try.underlying22 el9 ze9 ⟨rfl, (.str rfl (by decide)), trivial⟩ (by simp) (by decide) rfl) ?_
  refine WL.op rfl (Op1.buildSlice (n := 1) (ys := [(0, ([120] : Str))]) (z := ([] : Str)) (xs := [([120] : Str)]) Try.underlying22 el9 ze9 ⟨rfl, (.str rfl (by decide)), trivial⟩ (by simp) (by decide) rfl) ?_
  obtain ⟨insert, hv3, hm⟩ := bind_some hm
  refine WL.op rfl (Op1.call Try.call16 (wordseq_InsertAfter_spec _ _ _ _ _ _ hv3) ⟨(.tmp rfl), (.nil (t := tS)), (.tmp rfl), (.int (inR64.2 (by omega))), trivial⟩) ?_
  refine WL.op rfl (Op1.move (.tmp rfl)) ?_
  refine WL.op rfl (Op1.extract0 (.tmp rfl)) ?_
  refine WL.op rfl (Op1.extract1 (.tmp rfl)) ?_
  refine WL.op rfl (Op1.assign (.tmp rfl)) ?_
  refine WL.op rfl (Op1.assign (.tmp rfl)) ?_
  refine WL.nil ?_
  refine WN.seq ?_
  refine W.seq ?_
  refine W.region ?_
  refine WL.op rfl (Op1.move (.tmp rfl)) ?_
  refine WL.op rfl (Op1.lenL Try.underlying25 (.tmp rfl)) ?_
  refine WL.op rfl (Op1.eqI (.tmp rfl) (.int (inR64.2 (by omega)))) ?_
  refine WL.op rfl (Op1.move (.tmp rfl)) ?_
  rcases bcases (decide ((findal.length : Int) = (2 : Int))) with hb4 | hb4
  · have hp5 := of_decide_eq_true hb4
    rw [if_pos hp5] at hm
    refine WL.run rfl rfl rfl rfl hb4 rfl rfl (Op1.move (.tmp rfl)) ?_
    obtain ⟨v, hv6, hm⟩ := bind_some hm
    refine WL.run rfl rfl rfl rfl hb4 rfl rfl (Op1.idx hv6 Try.underlying25 Try.sizeOf3 (.tmp rfl) (.int (inR64.2 (by omega)))) ?_
    refine WL.run rfl rfl rfl rfl hb4 rfl rfl (Op1.load ty3 (.tmp rfl)) ?_
    refine WL.run rfl rfl rfl rfl hb4 rfl rfl (Op1.eqI (.tmp rfl) (.int (inR64.2 (by omega)))) ?_
    refine WL.op rfl (Op1.pickT (.tmp rfl) hb4 (.tmp rfl)) ?_
    refine WL.op rfl (Op1.move (.tmp rfl)) ?_
    rcases bcases (decide (v = (0 : Int))) with hb7 | hb7
    · have hp8 := of_decide_eq_true hb7
      rw [if_pos hp8] at hm
      refine WL.run rfl rfl rfl rfl hb7 rfl rfl (Op1.move (.tmp rfl)) ?_
      obtain ⟨v1, hv9, hm⟩ := bind_some hm
      refine WL.run rfl rfl rfl rfl hb7 rfl rfl (Op1.idx hv9 Try.underlying25 Try.sizeOf3 (.tmp rfl) (.int (inR64.2 (by omega)))) ?_
      refine WL.run rfl rfl rfl rfl hb7 rfl rfl (Op1.load ty3 (.tmp rfl)) ?_
      refine WL.run rfl rfl rfl rfl hb7 rfl rfl (Op1.eqI (.tmp rfl) (.int (inR64.2 (by omega)))) ?_
      refine WL.op rfl (Op1.pickT (.tmp rfl) hb7 (.tmp rfl)) ?_
      refine WL.op rfl (Op1.move (.tmp rfl)) ?_
      rcases bcases (decide (v1 = (4 : Int))) with hb10 | hb10
      · have hp11 := of_decide_eq_true hb10
        rw [if_pos hp11] at hm
        refine WL.run rfl rfl rfl rfl hb10 rfl rfl (Op1.move (.tmp rfl)) ?_
        refine WL.run rfl rfl rfl rfl hb10 rfl rfl (Op1.buildSlice (n := 4) (ys := [(0, ([97] : Str)), (1, ([98] : Str)), (2, ([99] : Str)), (3, ([100] : Str))]) (z := ([] : Str)) (xs := [([97] : Str), ([98] : Str), ([99] : Str), ([100] : Str)]) Try.underlying22 el9 ze9 ⟨rfl, (.str rfl (by decide)), rfl, (.str rfl (by decide)), rfl, (.str rfl (by decide)), rfl, (.str rfl (by decide)), trivial⟩ (by simp) (by decide) rfl) ?_
        obtain ⟨same, hv12, hm⟩ := bind_some hm
        refine WL.run rfl rfl rfl rfl hb10 rfl rfl (Op1.call Try.call15 (r04_Same_spec _ _ _ _ hv12) ⟨(.tmp rfl), (.tmp rfl), trivial⟩) ?_
        refine WL.op rfl (Op1.pickT (.tmp rfl) hb10 (.tmp rfl)) ?_
        refine WL.op rfl (Op1.move (.tmp rfl)) ?_
        rcases bcases (same) with hb13 | hb13
        · have hp14 := hb13
          rw [if_pos hp14] at hm
          refine WL.run rfl rfl rfl rfl hb13 rfl rfl (Op1.move (.tmp rfl)) ?_
          refine WL.run rfl rfl rfl rfl hb13 rfl rfl (Op1.eqI (.tmp rfl) (.int (inR64.2 (by omega)))) ?_
          refine WL.op rfl (Op1.pickT (.tmp rfl) hb13 (.tmp rfl)) ?_
          refine WL.op rfl (Op1.move (.tmp rfl)) ?_
          rcases bcases (decide (replac.2 = (1 : Int))) with hb15 | hb15
          · have hp16 := of_decide_eq_true hb15
            rw [if_pos hp16] at hm
            refine WL.run rfl rfl rfl rfl hb15 rfl rfl (Op1.move (.tmp rfl)) ?_
            refine WL.run rfl rfl rfl rfl hb15 rfl rfl (Op1.buildSlice (n := 2) (ys := [(0, ([120] : Str)), (1, ([97] : Str))]) (z := ([] : Str)) (xs := [([120] : Str), ([97] : Str)]) Try.underlying22 el9 ze9 ⟨rfl, (.str rfl (by decide)), rfl, (.str rfl (by decide)), trivial⟩ (by simp) (by decide) rfl) ?_
            obtain ⟨same1, hv17, hm⟩ := bind_some hm
            refine WL.run rfl rfl rfl rfl hb15 rfl rfl (Op1.call Try.call15 (r04_Same_spec _ _ _ _ hv17) ⟨(.tmp rfl), (.tmp rfl), trivial⟩) ?_
            refine WL.op rfl (Op1.pickT (.tmp rfl) hb15 (.tmp rfl)) ?_
            refine WL.op rfl (Op1.move (.tmp rfl)) ?_
            rcases bcases (same1) with hb18 | hb18
            · have hp19 := hb18
              rw [if_pos hp19] at hm
              refine WL.run rfl rfl rfl rfl hb18 rfl rfl (Op1.move (.tmp rfl)) ?_
              refine WL.run rfl rfl rfl rfl hb18 rfl rfl (Op1.eqI (.tmp rfl) (.int (inR64.2 (by omega)))) ?_
              refine WL.op rfl (Op1.pickT (.tmp rfl) hb18 (.tmp rfl)) ?_
              refine WL.op rfl (Op1.assign (.tmp rfl)) ?_
              refine WL.nil ?_
              refine WN.seq ?_
              have hr := Option.some.inj hm
              clear hm
              subst hr
              exact W.ret1 () rfl (.tmp rfl) trivial
            · have hp19 := ne_of_false hb18
              rw [if_neg hp19] at hm
              refine WL.pass rfl rfl rfl rfl hb18 rfl rfl ?_
              refine WL.pass rfl rfl rfl rfl hb18 rfl rfl ?_
              refine WL.op rfl (Op1.pickF (.tmp rfl) hb18 .bool) ?_
              refine WL.op rfl (Op1.assign (.tmp rfl)) ?_
              refine WL.nil ?_
              refine WN.seq ?_
              have hr := Option.some.inj hm
              clear hm
              subst hr
              exact W.ret1 () rfl (.tmp rfl) trivial
          · have hp16 := of_decide_eq_false hb15
            rw [if_neg hp16] at hm
            refine WL.pass rfl rfl rfl rfl hb15 rfl rfl ?_
            refine WL.pass rfl rfl rfl rfl hb15 rfl rfl ?_
            refine WL.pass rfl rfl rfl rfl hb15 rfl rfl ?_
            refine WL.op rfl (Op1.pickF (.tmp rfl) hb15 .bool) ?_
            refine WL.op rfl (Op1.move (.tmp rfl)) ?_
            refine WL.pass rfl rfl rfl rfl rfl rfl rfl ?_
            refine WL.pass rfl rfl rfl rfl rfl rfl rfl ?_
            refine WL.op rfl (Op1.pickF (.tmp rfl) rfl .bool) ?_
            refine WL.op rfl (Op1.assign (.tmp rfl)) ?_
            refine WL.nil ?_
            refine WN.seq ?_
            have hr := Option.some.inj hm
            clear hm
            subst hr
            exact W.ret1 () rfl (.tmp rfl) trivial
        · have hp14 := ne_of_false hb13
          rw [if_neg hp14] at hm
          refine WL.pass rfl rfl rfl rfl hb13 rfl rfl ?_
          refine WL.pass rfl rfl rfl rfl hb13 rfl rfl ?_
          refine WL.op rfl (Op1.pickF (.tmp rfl) hb13 .bool) ?_
          refine WL.op rfl (Op1.move (.tmp rfl)) ?_
          refine WL.pass rfl rfl rfl rfl rfl rfl rfl ?_
          refine WL.pass rfl rfl rfl rfl rfl rfl rfl ?_
          refine WL.pass rfl rfl rfl rfl rfl rfl rfl ?_
          refine WL.op rfl (Op1.pickF (.tmp rfl) rfl .bool) ?_
          refine WL.op rfl (Op1.move (.tmp rfl)) ?_
          refine WL.pass rfl rfl rfl rfl rfl rfl rfl ?_
          refine WL.pass rfl rfl rfl rfl rfl rfl rfl ?_
          refine WL.op rfl (Op1.pickF (.tmp rfl) rfl .bool) ?_
          refine WL.op rfl (Op1.assign (.tmp rfl)) ?_
          refine WL.nil ?_
          refine WN.seq ?_
          have hr := Option.some.inj hm
          clear hm
          subst hr
          exact W.ret1 () rfl (.tmp rfl) trivial
      · have hp11 := of_decide_eq_false hb10
        rw [if_neg hp11] at hm
        refine WL.pass rfl rfl rfl rfl hb10 rfl rfl ?_
        refine WL.pass rfl rfl rfl rfl hb10 rfl rfl ?_
        refine WL.pass rfl rfl rfl rfl hb10 rfl rfl ?_
        refine WL.op rfl (Op1.pickF (.tmp rfl) hb10 .bool) ?_
        refine WL.op rfl (Op1.move (.tmp rfl)) ?_
        refine WL.pass rfl rfl rfl rfl rfl rfl rfl ?_
        refine WL.pass rfl rfl rfl rfl rfl rfl rfl ?_
        refine WL.op rfl (Op1.pickF (.tmp rfl) rfl .bool) ?_
        refine WL.op rfl (Op1.move (.tmp rfl)) ?_
        refine WL.pass rfl rfl rfl rfl rfl rfl rfl ?_
        refine WL.pass rfl rfl rfl rfl rfl rfl rfl ?_
        refine WL.pass rfl rfl rfl rfl rfl rfl rfl ?_
        refine WL.op rfl (Op1.pickF (.tmp rfl) rfl .bool) ?_
        refine WL.op rfl (Op1.move (.tmp rfl)) ?_
        refine WL.pass rfl rfl rfl rfl rfl rfl rfl ?_
        refine WL.pass rfl rfl rfl rfl rfl rfl rfl ?_
        refine WL.op rfl (Op1.pickF (.tmp rfl) rfl .bool) ?_
        refine WL.op rfl (Op1.assign (.tmp rfl)) ?_
        refine WL.nil ?_
        refine WN.seq ?_
        have hr := Option.some.inj hm
        clear hm
        subst hr
        exact W.ret1 () rfl (.tmp rfl) trivial
    · have hp8 := of_decide_eq_false hb7
      rw [if_neg hp8] at hm
      refine WL.pass rfl rfl rfl rfl hb7 rfl rfl ?_
      refine WL.pass rfl rfl rfl rfl hb7 rfl rfl ?_
      refine WL.pass rfl rfl rfl rfl hb7 rfl rfl ?_
      refine WL.pass rfl rfl rfl rfl hb7 rfl rfl ?_
      refine WL.op rfl (Op1.pickF (.tmp rfl) hb7 .bool) ?_
      refine WL.op rfl (Op1.move (.tmp rfl)) ?_
      refine WL.pass rfl rfl rfl rfl rfl rfl rfl ?_
      refine WL.pass rfl rfl rfl rfl rfl rfl rfl ?_
      refine WL.pass rfl rfl rfl rfl rfl rfl rfl ?_
      refine WL.op rfl (Op1.pickF (.tmp rfl) rfl .bool) ?_
      refine WL.op rfl (Op1.move (.tmp rfl)) ?_
      refine WL.pass rfl rfl rfl rfl rfl rfl rfl ?_
      refine WL.pass rfl rfl rfl rfl rfl rfl rfl ?_
      refine WL.op rfl (Op1.pickF (.tmp rfl) rfl .bool) ?_
      refine WL.op rfl (Op1.move (.tmp rfl)) ?_
      refine WL.pass rfl rfl rfl rfl rfl rfl rfl ?_
      refine WL.pass rfl rfl rfl rfl rfl rfl rfl ?_
      refine WL.pass rfl rfl rfl rfl rfl rfl rfl ?_
      refine WL.op rfl (Op1.pickF (.tmp rfl) rfl .bool) ?_
      refine WL.op rfl (Op1.move (.tmp rfl)) ?_
      refine WL.pass rfl rfl rfl rfl rfl rfl rfl ?_
      refine WL.pass rfl rfl rfl rfl rfl rfl rfl ?_
      refine WL.op rfl (Op1.pickF (.tmp rfl) rfl .bool) ?_
      refine WL.op rfl (Op1.assign (.tmp rfl)) ?_
      refine WL.nil ?_
      refine WN.seq ?_
      have hr := Option.some.inj hm
      clear hm
      subst hr
      exact W.ret1 () rfl (.tmp rfl) trivial
  · have hp5 := of_decide_eq_false hb4
    rw [if_neg hp5] at hm
    refine WL.pass rfl rfl rfl rfl hb4 rfl rfl ?_
    refine WL.pass rfl rfl rfl rfl hb4 rfl rfl ?_
    refine WL.pass rfl rfl rfl rfl hb4 rfl rfl ?_
    refine WL.pass rfl rfl rfl rfl hb4 rfl rfl ?_
    refine WL.op rfl (Op1.pickF (.tmp rfl) hb4 .bool) ?_
    refine WL.op rfl (Op1.move (.tmp rfl)) ?_
    refine WL.pass rfl rfl rfl rfl rfl rfl rfl ?_
    refine WL.pass rfl rfl rfl rfl rfl rfl rfl ?_
    refine WL.pass rfl rfl rfl rfl rfl rfl rfl ?_
    refine WL.pass rfl rfl rfl rfl rfl rfl rfl ?_
    refine WL.op rfl (Op1.pickF (.tmp rfl) rfl .bool) ?_
    refine WL.op rfl (Op1.move (.tmp rfl)) ?_
    refine WL.pass rfl rfl rfl rfl rfl rfl rfl ?_
    refine WL.pass rfl rfl rfl rfl rfl rfl rfl ?_
    refine WL.pass rfl rfl rfl rfl rfl rfl rfl ?_
    refine WL.op rfl (Op1.pickF (.tmp rfl) rfl .bool) ?_
    refine WL.op rfl (Op1.move (.tmp rfl)) ?_
    refine WL.pass rfl rfl rfl rfl rfl rfl rfl ?_
    refine WL.pass rfl rfl rfl rfl rfl rfl rfl ?_
    refine WL.op rfl (Op1.pickF (.tmp rfl) rfl .bool) ?_
    refine WL.op rfl (Op1.move (.tmp rfl)) ?_
    refine WL.pass rfl rfl rfl rfl rfl rfl rfl ?_
    refine WL.pass rfl rfl rfl rfl rfl rfl rfl ?_
    refine WL.pass rfl rfl rfl rfl rfl rfl rfl ?_
    refine WL.op rfl (Op1.pickF (.tmp rfl) rfl .bool) ?_
    refine WL.op rfl (Op1.move (.tmp rfl)) ?_
    refine WL.pass rfl rfl rfl rfl rfl rfl rfl ?_
    refine WL.pass rfl rfl rfl rfl rfl rfl rfl ?_
    refine WL.op rfl (Op1.pickF (.tmp rfl) rfl .bool) ?_
    refine WL.op rfl (Op1.assign (.tmp rfl)) ?_
    refine WL.nil ?_
    refine WN.seq ?_
    have hr := Option.some.inj hm
    clear hm
    subst hr
    exact W.ret1 () rfl (.tmp rfl) trivial

theorem r04_Stands_spec (n : Nat) (l : List Str) (part : List Str) (at0_ : Int) (r : Bool) (hm : M.r04_Stands n l part at0_ = some r) : FSpec Try.prog 12 [((tL tS).is l), ((tL tS).is part), ((tI .i64).is at0_)] (tB.is r) := by
  unfold M.r04_Stands at hm
  refine FSpec.of Try.func12 rfl rfl rfl (fun g0 => ?_)
  refine W.seq ?_
  refine W.region ?_
  refine WL.op rfl (Op1.assign .bool) ?_
  refine WL.nil ?_
  refine WN.seq ?_
  refine W.seq ?_
  refine W.seq ?_
  refine W.region ?_
  refine WL.op rfl (Op1.move (.tmp rfl)) ?_
  refine WL.op rfl (Op1.move (.tmp rfl)) ?_
  refine WL.op rfl (Op1.lenL Try.underlying22 (.tmp rfl)) ?_
  refine WL.op rfl (Op1.move (.tmp rfl)) ?_
  refine WL.op rfl (Op1.lenL Try.underlying22 (.tmp rfl)) ?_
  obtain ⟨v, hv1, hm⟩ := bind_some hm
  refine WL.op rfl (Op1.subC hv1 (.tmp rfl) (.tmp rfl)) ?_
  refine WL.op rfl (Op1.gtI (.tmp rfl) (.tmp rfl)) ?_
  refine WL.nil ?_
  refine WN.seq ?_
  refine W.cond (.tmp rfl) (fun hc2 => ?_) (fun hc2 => ?_)
  · have hp3 := of_decide_eq_true hc2
    rw [if_pos hp3] at hm
    refine W.seq ?_
    refine W.region ?_
    refine WL.op rfl (Op1.assign .bool) ?_
    refine WL.nil ?_
    refine WN.seq ?_
    have hr := Option.some.inj hm
    clear hm
    subst hr
    exact W.ret1 () rfl (.tmp rfl) trivial
  · have hp3 := of_decide_eq_false hc2
    rw [if_neg hp3] at hm
    refine W.skip ?_
    refine WN.seq ?_
    refine W.seq ?_
    refine W.region ?_
    refine WL.op rfl (Op1.move (.tmp rfl)) ?_
    refine WL.op rfl (Op1.move (.tmp rfl)) ?_
    refine WL.op rfl (Op1.move (.tmp rfl)) ?_
    refine WL.op rfl (Op1.move (.tmp rfl)) ?_
    refine WL.op rfl (Op1.lenL Try.underlying22 (.tmp rfl)) ?_
    obtain ⟨v1, hv4, hm⟩ := bind_some hm
    refine WL.op rfl (Op1.addC hv4 (.tmp rfl) (.tmp rfl)) ?_
    obtain ⟨v2, hv5, hm⟩ := bind_some hm
    refine WL.op rfl (Op1.slc hv5 Try.underlying22 Try.sizeOf9 (.tmp rfl) (.tmp rfl) (.tmp rfl)) ?_
    refine WL.op rfl (Op1.move (.tmp rfl)) ?_
    obtain ⟨same, hv6, hm⟩ := bind_some hm
    refine WL.op rfl (Op1.call Try.call15 (r04_Same_spec _ _ _ _ hv6) ⟨(.tmp rfl), (.tmp rfl), trivial⟩) ?_
    refine WL.op rfl (Op1.assign (.tmp rfl)) ?_
    refine WL.nil ?_
    refine WN.seq ?_
    have hr := Option.some.inj hm
    clear hm
    subst hr
    exact W.ret1 () rfl (.tmp rfl) trivial

theorem law04_WordseqOccurrencesDisjoint_spec (n : Nat) (l : List Str) (part : List Str) (r : Bool) (hm : M.law04_WordseqOccurrencesDisjoint n l part = some r) : FSpec Try.prog 3 [((tL tS).is l), ((tL tS).is part)] (tB.is r) := by
  unfold M.law04_WordseqOccurrencesDisjoint at hm
  refine FSpec.of Try.func3 rfl rfl rfl (fun g0 => ?_)
  refine W.seq ?_
  refine W.region ?_
  refine WL.op rfl (Op1.assign .bool) ?_
  refine WL.nil ?_
  refine WN.seq ?_
  refine W.seq ?_
  obtain ⟨s1, hs2, hk3⟩ := bind_some hm
  clear hm
  refine W.join (fun s : Bool => s = s1) (fun s => [(18, (tB.is s)), (0, ((tL tS).is l)), (1, ((tL tS).is part))]) (fun s => []) ?_ ?_
  · rintro v hj57
    try dsimp only at hj57
    subst hj57
    have hm := hk3
    clear hk3
    try dsimp only at hm
    change W _ _ _ _ _ _ _ [(18, (tB.is v)), (0, ((tL tS).is l)), (1, ((tL tS).is part))] []
    refine W.cond (.tmp rfl) (fun hc7 => ?_) (fun hc7 => ?_)
    · have hp8 := hc7
      rw [if_pos hp8] at hm
      refine W.seq ?_
      refine W.region ?_
      obtain ⟨awake, hv9, hm⟩ := bind_some hm
      refine WL.op rfl (Op1.call Try.call10 (law04_awake_spec _ _ hv9) trivial) ?_
      refine WL.op rfl (Op1.assign (.tmp rfl)) ?_
      refine WL.nil ?_
      refine WN.seq ?_
      have hr := Option.some.inj hm
      clear hm
      subst hr
      exact W.ret1 () rfl (.tmp rfl) trivial
    · have hp8 := ne_of_false hc7
      rw [if_neg hp8] at hm
      refine W.skip ?_
      refine WN.seq ?_
      refine W.seq ?_
      refine W.region ?_
      refine WL.op rfl (Op1.assign (.int (inR64.2 (by omega)))) ?_
      refine WL.nil ?_
      refine WN.seq ?_
      refine W.seq ?_
      refine W.seq ?_
      refine W.region ?_
      refine WL.op rfl (Op1.move (.tmp rfl)) ?_
      refine WL.op rfl (Op1.move (.tmp rfl)) ?_
      obtain ⟨findal, hv10, hm⟩ := bind_some hm
      refine WL.op rfl (Op1.call Try.call11 ((wordseq_FindAll_spec _ _ _ _ hv10).read fun _ _ _ => tO_tL) ⟨(.tmp rfl), (.tmp rfl), trivial⟩) ?_
      refine WL.op rfl (Op1.lenL Try.underlying25 (.tmp rfl)) ?_
      refine WL.op rfl (Op1.move (.int (inR64.2 (by omega)))) ?_
      refine WL.nil ?_
      refine WN.seq ?_
      refine W.block ?_
      obtain ⟨s11, hs12, hk13⟩ := bind_some hm
      clear hm
      refine W.loop (fun m (s : Int × Int) => M.law04_WordseqOccurrencesDisjoint_loop1 l part v findal m s.1 s.2 = some s11) (fun s => [(5, ((tI .i64).is s.1)), (24, ((tI .i64).is s.2)), (0, ((tL tS).is l)), (1, ((tL tS).is part)), (22, ((tL (tI .i64)).is findal)), (23, ((tI .i64).is (findal.length : Int)))]) (fun s => []) _ ((0 : Int), (0 : Int)) hs12 ⟨Ent.q rfl, Ent.q rfl, Ent.q rfl, Ent.q rfl, Ent.q rfl, Ent.q rfl, trivial⟩ trivial ?_
      rintro n14 ⟨end0_, v1⟩ hm
      try dsimp only at hm
      change W _ _ _ _ _ _ _ [(5, ((tI .i64).is end0_)), (24, ((tI .i64).is v1)), (0, ((tL tS).is l)), (1, ((tL tS).is part)), (22, ((tL (tI .i64)).is findal)), (23, ((tI .i64).is (findal.length : Int)))] []
      cases n14 with
      | zero => rw [M.law04_WordseqOccurrencesDisjoint_loop1.eq_1] at hm; cases hm
      | succ n14 =>
        rw [M.law04_WordseqOccurrencesDisjoint_loop1.eq_2] at hm
        refine W.seq ?_
        refine W.region ?_
        refine WL.op rfl (Op1.ltI (.tmp rfl) (.tmp rfl)) ?_
        refine WL.nil ?_
        refine WN.seq ?_
        refine W.seq ?_
        refine W.cond (.tmp rfl) (fun hc15 => ?_) (fun hc15 => ?_)
        · have hp16 := of_decide_eq_true hc15
          rw [if_pos hp16] at hm
          refine W.skip ?_
          refine WN.seq ?_
          refine W.seq ?_
          refine W.block ?_
          refine W.seq ?_
          refine W.region ?_
          obtain ⟨v2, hv17, hm⟩ := bind_some hm
          refine WL.op rfl (Op1.idx hv17 Try.underlying25 Try.sizeOf3 (.tmp rfl) (.tmp rfl)) ?_
          refine WL.op rfl (Op1.load ty3 (.tmp rfl)) ?_
          refine WL.op rfl (Op1.assign (.tmp rfl)) ?_
          refine WL.nil ?_
          refine WN.seq ?_
          refine W.seq ?_
          obtain ⟨s18, hs19, hk20⟩ := bind_some hm
          clear hm
          refine W.join (fun s : Bool => s = s18) (fun s => [(37, (tB.is s)), (0, ((tL tS).is l)), (1, ((tL tS).is part)), (5, ((tI .i64).is end0_)), (7, ((tI .i64).is v2)), (22, ((tL (tI .i64)).is findal)), (23, ((tI .i64).is (findal.length : Int))), (24, ((tI .i64).is v1))]) (fun s => []) ?_ ?_
          · rintro v3 hj42
            try dsimp only at hj42
            subst hj42
            have hm := hk20
            clear hk20
            try dsimp only at hm
            change W _ _ _ _ _ _ _ [(37, (tB.is v3)), (0, ((tL tS).is l)), (1, ((tL tS).is part)), (5, ((tI .i64).is end0_)), (7, ((tI .i64).is v2)), (22, ((tL (tI .i64)).is findal)), (23, ((tI .i64).is (findal.length : Int))), (24, ((tI .i64).is v1))] []
            refine W.cond (.tmp rfl) (fun hc24 => ?_) (fun hc24 => ?_)
            · have hp25 := hc24
              rw [if_pos hp25] at hm
              refine W.seq ?_
              refine W.region ?_
              refine WL.op rfl (Op1.assign .bool) ?_
              refine WL.nil ?_
              refine WN.seq ?_
              have hr26 := Option.some.inj hm
              clear hm
              subst hr26
              have hm := hk13
              try dsimp only at hm
              have hr := Option.some.inj hm
              clear hm
              subst hr
              exact W.ret1 () rfl (.tmp rfl) trivial
            · have hp25 := ne_of_false hc24
              rw [if_neg hp25] at hm
              refine W.skip ?_
              refine WN.seq ?_
              refine W.seq ?_
              refine W.seq ?_
              refine W.region ?_
              refine WL.op rfl (Op1.move (.tmp rfl)) ?_
              refine WL.op rfl (Op1.assign (.tmp rfl)) ?_
              refine WL.nil ?_
              refine WN.seq ?_
              refine W.block ?_
              obtain ⟨s27, hs28, hk29⟩ := bind_some hm
              clear hm
              refine W.loop (fun m (s : Int) => M.law04_WordseqOccurrencesDisjoint_loop2 l part v2 m s = some s27) (fun s => [(8, ((tI .i64).is s)), (0, ((tL tS).is l)), (1, ((tL tS).is part)), (7, ((tI .i64).is v2)), (22, ((tL (tI .i64)).is findal)), (23, ((tI .i64).is (findal.length : Int))), (24, ((tI .i64).is v1))]) (fun s => []) _ end0_ hs28 ⟨Ent.q rfl, Ent.q rfl, Ent.q rfl, Ent.q rfl, Ent.q rfl, Ent.q rfl, Ent.q rfl, trivial⟩ trivial ?_
              rintro n30 i hm
              try dsimp only at hm
              change W _ _ _ _ _ _ _ [(8, ((tI .i64).is i)), (0, ((tL tS).is l)), (1, ((tL tS).is part)), (7, ((tI .i64).is v2)), (22, ((tL (tI .i64)).is findal)), (23, ((tI .i64).is (findal.length : Int))), (24, ((tI .i64).is v1))] []
              cases n30 with
              | zero => rw [M.law04_WordseqOccurrencesDisjoint_loop2.eq_1] at hm; cases hm
              | succ n30 =>
                rw [M.law04_WordseqOccurrencesDisjoint_loop2.eq_2] at hm
                refine W.seq ?_
                refine W.seq ?_
                refine W.region ?_
                refine WL.op rfl (Op1.move (.tmp rfl)) ?_
                refine WL.op rfl (Op1.move (.tmp rfl)) ?_
                refine WL.op rfl (Op1.ltI (.tmp rfl) (.tmp rfl)) ?_
                refine WL.nil ?_
                refine WN.seq ?_
                refine W.cond (.tmp rfl) (fun hc31 => ?_) (fun hc31 => ?_)
                · have hp32 := of_decide_eq_true hc31
                  rw [if_pos hp32] at hm
                  refine W.skip ?_
                  refine WN.seq ?_
                  refine W.seq ?_
                  refine W.block ?_
                  refine W.seq ?_
                  refine W.region ?_
                  refine WL.op rfl (Op1.move (.tmp rfl)) ?_
                  refine WL.op rfl (Op1.move (.tmp rfl)) ?_
                  refine WL.op rfl (Op1.move (.tmp rfl)) ?_
                  obtain ⟨stands1, hv33, hm⟩ := bind_some hm
                  refine WL.op rfl (Op1.call Try.call12 (r04_Stands_spec _ _ _ _ _ hv33) ⟨(.tmp rfl), (.tmp rfl), (.tmp rfl), trivial⟩) ?_
                  refine WL.nil ?_
                  refine WN.seq ?_
                  refine W.cond (.tmp rfl) (fun hc34 => ?_) (fun hc34 => ?_)
                  · have hp35 := hc34
                    rw [if_pos hp35] at hm
                    refine W.seq ?_
                    refine W.region ?_
                    refine WL.op rfl (Op1.assign .bool) ?_
                    refine WL.nil ?_
                    refine WN.seq ?_
                    have hr36 := Option.some.inj hm
                    clear hm
                    subst hr36
                    have hm := hk29
                    try dsimp only at hm
                    have hr37 := Option.some.inj hm
                    clear hm
                    subst hr37
                    have hm := hk13
                    try dsimp only at hm
                    have hr := Option.some.inj hm
                    clear hm
                    subst hr
                    exact W.ret1 () rfl (.tmp rfl) trivial
                  · have hp35 := ne_of_false hc34
                    rw [if_neg hp35] at hm
                    refine W.skip ?_
                    refine WN.block ?_
                    refine WN.seq ?_
                    refine W.region ?_
                    refine WL.op rfl (Op1.move (.tmp rfl)) ?_
                    obtain ⟨v4, hv38, hm⟩ := bind_some hm
                    refine WL.op rfl (Op1.addC hv38 (.tmp rfl) (.int (inR64.2 (by omega)))) ?_
                    refine WL.op rfl (Op1.assign (.tmp rfl)) ?_
                    refine WL.nil ?_
                    exact WN.again n30 v4 (Nat.lt_succ_self n30) hm ⟨Ent.q rfl, Ent.q rfl, Ent.q rfl, Ent.q rfl, Ent.q rfl, Ent.q rfl, Ent.q rfl, trivial⟩ trivial
                · have hp32 := of_decide_eq_false hc31
                  rw [if_neg hp32] at hm
                  refine W.exit rfl ?_
                  have hr39 := Option.some.inj hm
                  clear hm
                  subst hr39
                  have hm := hk29
                  try dsimp only at hm
                  refine WN.seq ?_
                  refine W.region ?_
                  refine WL.op rfl (Op1.move (.tmp rfl)) ?_
                  refine WL.op rfl (Op1.move (.tmp rfl)) ?_
                  refine WL.op rfl (Op1.lenL Try.underlying22 (.tmp rfl)) ?_
                  obtain ⟨v5, hv40, hm⟩ := bind_some hm
                  refine WL.op rfl (Op1.addC hv40 (.tmp rfl) (.tmp rfl)) ?_
                  refine WL.op rfl (Op1.assign (.tmp rfl)) ?_
                  refine WL.nil ?_
                  refine WN.block ?_
                  refine WN.seq ?_
                  refine W.region ?_
                  obtain ⟨v6, hv41, hm⟩ := bind_some hm
                  refine WL.op rfl (Op1.addC hv41 (.tmp rfl) (.int (inR64.2 (by omega)))) ?_
                  refine WL.op rfl (Op1.move (.tmp rfl)) ?_
                  refine WL.nil ?_
                  exact WN.again n14 (v5, v6) (Nat.lt_succ_self n14) hm ⟨Ent.q rfl, Ent.q rfl, Ent.q rfl, Ent.q rfl, Ent.q rfl, Ent.q rfl, trivial⟩ trivial
          · have hm := hs19
            clear hs19
            refine W.region ?_
            refine WL.op rfl (Op1.move (.tmp rfl)) ?_
            refine WL.op rfl (Op1.move (.tmp rfl)) ?_
            refine WL.op rfl (Op1.ltI (.tmp rfl) (.tmp rfl)) ?_
            refine WL.op rfl (Op1.move (.tmp rfl)) ?_
            rcases bcases (decide (v2 < end0_)) with hb21 | hb21
            · have hp22 := of_decide_eq_true hb21
              rw [if_pos hp22] at hm
              refine WL.pass rfl rfl rfl rfl hb21 rfl rfl ?_
              refine WL.pass rfl rfl rfl rfl hb21 rfl rfl ?_
              refine WL.pass rfl rfl rfl rfl hb21 rfl rfl ?_
              refine WL.pass rfl rfl rfl rfl hb21 rfl rfl ?_
              refine WL.pass rfl rfl rfl rfl hb21 rfl rfl ?_
              refine WL.op rfl (Op1.pickT (.tmp rfl) hb21 .bool) ?_
              refine WL.nil ?_
              exact WN.meet true (Option.some.inj hm) ⟨Ent.q rfl, Ent.q rfl, Ent.q rfl, Ent.q rfl, Ent.q rfl, Ent.q rfl, Ent.q rfl, Ent.q rfl, trivial⟩ trivial
            · have hp22 := of_decide_eq_false hb21
              rw [if_neg hp22] at hm
              refine WL.run rfl rfl rfl rfl hb21 rfl rfl (Op1.move (.tmp rfl)) ?_
              refine WL.run rfl rfl rfl rfl hb21 rfl rfl (Op1.move (.tmp rfl)) ?_
              refine WL.run rfl rfl rfl rfl hb21 rfl rfl (Op1.move (.tmp rfl)) ?_
              obtain ⟨stands, hv23, hm⟩ := bind_some hm
              refine WL.run rfl rfl rfl rfl hb21 rfl rfl (Op1.call Try.call12 (r04_Stands_spec _ _ _ _ _ hv23) ⟨(.tmp rfl), (.tmp rfl), (.tmp rfl), trivial⟩) ?_
              refine WL.run rfl rfl rfl rfl hb21 rfl rfl (Op1.notB (.tmp rfl)) ?_
              refine WL.op rfl (Op1.pickF (.tmp rfl) hb21 (.tmp rfl)) ?_
              refine WL.nil ?_
              exact WN.meet (!stands) (Option.some.inj hm) ⟨Ent.q rfl, Ent.q rfl, Ent.q rfl, Ent.q rfl, Ent.q rfl, Ent.q rfl, Ent.q rfl, Ent.q rfl, trivial⟩ trivial
        · have hp16 := of_decide_eq_false hc15
          rw [if_neg hp16] at hm
          refine W.exit rfl ?_
          have hr43 := Option.some.inj hm
          clear hm
          subst hr43
          have hm := hk13
          try dsimp only at hm
          refine WN.seq ?_
          refine W.seq ?_
          refine W.seq ?_
          refine W.region ?_
          refine WL.op rfl (Op1.move (.tmp rfl)) ?_
          refine WL.op rfl (Op1.assign (.tmp rfl)) ?_
          refine WL.nil ?_
          refine WN.seq ?_
          refine W.block ?_
          obtain ⟨s44, hs45, hk46⟩ := bind_some hm
          clear hm
          refine W.loop (fun m (s : Int) => M.law04_WordseqOccurrencesDisjoint_loop3 l part m s = some s44) (fun s => [(9, ((tI .i64).is s)), (0, ((tL tS).is l)), (1, ((tL tS).is part))]) (fun s => []) _ end0_ hs45 ⟨Ent.q rfl, Ent.q rfl, Ent.q rfl, trivial⟩ trivial ?_
          rintro n47 i1 hm
          try dsimp only at hm
          change W _ _ _ _ _ _ _ [(9, ((tI .i64).is i1)), (0, ((tL tS).is l)), (1, ((tL tS).is part))] []
          cases n47 with
          | zero => rw [M.law04_WordseqOccurrencesDisjoint_loop3.eq_1] at hm; cases hm
          | succ n47 =>
            rw [M.law04_WordseqOccurrencesDisjoint_loop3.eq_2] at hm
            refine W.seq ?_
            refine W.seq ?_
            refine W.region ?_
            refine WL.op rfl (Op1.move (.tmp rfl)) ?_
            refine WL.op rfl (Op1.move (.tmp rfl)) ?_
            refine WL.op rfl (Op1.lenL Try.underlying22 (.tmp rfl)) ?_
            refine WL.op rfl (Op1.ltI (.tmp rfl) (.tmp rfl)) ?_
            refine WL.nil ?_
            refine WN.seq ?_
            refine W.cond (.tmp rfl) (fun hc48 => ?_) (fun hc48 => ?_)
            · have hp49 := of_decide_eq_true hc48
              rw [if_pos hp49] at hm
              refine W.skip ?_
              refine WN.seq ?_
              refine W.seq ?_
              refine W.block ?_
              refine W.seq ?_
              refine W.region ?_
              refine WL.op rfl (Op1.move (.tmp rfl)) ?_
              refine WL.op rfl (Op1.move (.tmp rfl)) ?_
              refine WL.op rfl (Op1.move (.tmp rfl)) ?_
              obtain ⟨stands2, hv50, hm⟩ := bind_some hm
              refine WL.op rfl (Op1.call Try.call12 (r04_Stands_spec _ _ _ _ _ hv50) ⟨(.tmp rfl), (.tmp rfl), (.tmp rfl), trivial⟩) ?_
              refine WL.nil ?_
              refine WN.seq ?_
              refine W.cond (.tmp rfl) (fun hc51 => ?_) (fun hc51 => ?_)
              · have hp52 := hc51
                rw [if_pos hp52] at hm
                refine W.seq ?_
                refine W.region ?_
                refine WL.op rfl (Op1.assign .bool) ?_
                refine WL.nil ?_
                refine WN.seq ?_
                have hr53 := Option.some.inj hm
                clear hm
                subst hr53
                have hm := hk46
                try dsimp only at hm
                have hr := Option.some.inj hm
                clear hm
                subst hr
                exact W.ret1 () rfl (.tmp rfl) trivial
              · have hp52 := ne_of_false hc51
                rw [if_neg hp52] at hm
                refine W.skip ?_
                refine WN.block ?_
                refine WN.seq ?_
                refine W.region ?_
                refine WL.op rfl (Op1.move (.tmp rfl)) ?_
                refine WL.lenL (s := 0) (.tmp rfl) fun hl54 => ?_
                refine WL.op rfl (Op1.addI1 (.tmp rfl) (.int (inR64.2 (by omega))) hp49 hl54) ?_
                refine WL.op rfl (Op1.assign (.tmp rfl)) ?_
                refine WL.nil ?_
                exact WN.again n47 (i1 + 1) (Nat.lt_succ_self n47) hm ⟨Ent.q rfl, Ent.q rfl, Ent.q rfl, trivial⟩ trivial
            · have hp49 := of_decide_eq_false hc48
              rw [if_neg hp49] at hm
              refine W.exit rfl ?_
              have hr55 := Option.some.inj hm
              clear hm
              subst hr55
              have hm := hk46
              try dsimp only at hm
              refine WN.seq ?_
              refine W.seq ?_
              refine W.region ?_
              obtain ⟨awake1, hv56, hm⟩ := bind_some hm
              refine WL.op rfl (Op1.call Try.call10 (law04_awake_spec _ _ hv56) trivial) ?_
              refine WL.op rfl (Op1.assign (.tmp rfl)) ?_
              refine WL.nil ?_
              refine WN.seq ?_
              have hr := Option.some.inj hm
              clear hm
              subst hr
              exact W.ret1 () rfl (.tmp rfl) trivial
  · have hm := hs2
    clear hs2
    refine W.region ?_
    refine WL.op rfl (Op1.move (.tmp rfl)) ?_
    refine WL.op rfl (Op1.move (.tmp rfl)) ?_
    refine WL.op rfl (Op1.buildSlice (n := 2) (ys := [(0, l), (1, part)]) (z := ([] : List Str)) (xs := [l, part]) Try.underlying38 el22 ze22 ⟨rfl, (.tmp rfl), rfl, (.tmp rfl), trivial⟩ (by simp) (by decide) rfl) ?_
    obtain ⟨long, hv4, hm⟩ := bind_some hm
    refine WL.op rfl (Op1.call Try.call9 (law04_long_spec _ _ _ hv4) ⟨(.tmp rfl), trivial⟩) ?_
    refine WL.op rfl (Op1.move (.tmp rfl)) ?_
    rcases bcases (long) with hb5 | hb5
    · have hp6 := hb5
      rw [if_pos hp6] at hm
      refine WL.pass rfl rfl rfl rfl hb5 rfl rfl ?_
      refine WL.pass rfl rfl rfl rfl hb5 rfl rfl ?_
      refine WL.pass rfl rfl rfl rfl hb5 rfl rfl ?_
      refine WL.op rfl (Op1.pickT (.tmp rfl) hb5 .bool) ?_
      refine WL.nil ?_
      exact WN.meet true (Option.some.inj hm) ⟨Ent.q rfl, Ent.q rfl, Ent.q rfl, trivial⟩ trivial
    · have hp6 := ne_of_false hb5
      rw [if_neg hp6] at hm
      refine WL.run rfl rfl rfl rfl hb5 rfl rfl (Op1.move (.tmp rfl)) ?_
      refine WL.run rfl rfl rfl rfl hb5 rfl rfl (Op1.lenL Try.underlying22 (.tmp rfl)) ?_
      refine WL.run rfl rfl rfl rfl hb5 rfl rfl (Op1.eqI (.tmp rfl) (.int (inR64.2 (by omega)))) ?_
      refine WL.op rfl (Op1.pickF (.tmp rfl) hb5 (.tmp rfl)) ?_
      refine WL.nil ?_
      exact WN.meet (decide ((part.length : Int) = (0 : Int))) (Option.some.inj hm) ⟨Ent.q rfl, Ent.q rfl, Ent.q rfl, trivial⟩ trivial

theorem r04_Find_spec (n : Nat) (l : List Str) (part : List Str) (r : (List Int)) (hm : M.r04_Find n l part = some r) : FSpecR Try.prog 19 [((tL tS).is l), ((tL tS).is part)] [] (fun k : Tok => tO (tI .i64) k r) (fun k => [(7, Own (tI .i64) 3 k r.length)]) := by
  unfold M.r04_Find at hm
  refine FSpecR.of Try.func19 rfl rfl rfl (fun g0 => ?_)
  refine W.seq ?_
  refine W.region ?_
  refine WL.addNil (t := (tI .i64)) (E := 3) 4 ?_
  refine WL.op rfl (Op1.assign (Opd.nilO (t := (tI .i64)))) ?_
  refine WL.nil ?_
  refine WN.seq ?_
  refine W.seq ?_
  refine W.region ?_
  refine WL.opR rfl (OpR.buildSlice (n := 0) (ys := []) (z := (0 : Int)) (xs := ([] : List Int)) 7 Try.underlying25 el3 ze3 trivial (by simp) (by decide) rfl) (fun k => ?_)
  refine WL.op rfl (Op1.assign (.tmp rfl)) ?_
  refine WL.nil ?_
  refine WN.seq ?_
  refine W.seq ?_
  refine W.seq ?_
  refine W.region ?_
  refine WL.op rfl (Op1.move (.tmp rfl)) ?_
  refine WL.op rfl (Op1.lenL Try.underlying22 (.tmp rfl)) ?_
  refine WL.op rfl (Op1.eqI (.tmp rfl) (.int (inR64.2 (by omega)))) ?_
  refine WL.nil ?_
  refine WN.seq ?_
  refine W.cond (.tmp rfl) (fun hc1 => ?_) (fun hc1 => ?_)
  · have hp2 := of_decide_eq_true hc1
    rw [if_pos hp2] at hm
    refine W.seq ?_
    refine W.region ?_
    refine WL.op rfl (Op1.move (.tmp rfl)) ?_
    refine WL.op rfl (Op1.assign (.tmp rfl)) ?_
    refine WL.nil ?_
    refine WN.seq ?_
    have hr := Option.some.inj hm
    clear hm
    subst hr
    exact W.ret1 k rfl (.tmp rfl) ⟨rfl, rfl, trivial⟩
  · have hp2 := of_decide_eq_false hc1
    rw [if_neg hp2] at hm
    refine W.skip ?_
    refine WN.seq ?_
    refine W.seq ?_
    refine W.region ?_
    refine WL.op rfl (Op1.assign (.int (inR64.2 (by omega)))) ?_
    refine WL.nil ?_
    refine WN.seq ?_
    refine W.seq ?_
    refine W.block ?_
    obtain ⟨s3, hs4, hk5⟩ := bind_some hm
    clear hm
    refine W.loop (fun m (s : ((List Int) × Int) × Tok) => M.r04_Find_loop1 l part m s.1.1 s.1.2 = some s3) (fun s => [(5, (tO (tI .i64) s.2 s.1.1)), (6, ((tI .i64).is s.1.2)), (0, ((tL tS).is l)), (1, ((tL tS).is part))]) (fun s => [(7, Own (tI .i64) 3 s.2 s.1.1.length)]) _ ((([] : List Int), (0 : Int)), k) hs4 ⟨Ent.q rfl, Ent.q rfl, Ent.q rfl, Ent.q rfl, trivial⟩ ⟨rfl, rfl, trivial⟩ ?_
    rintro n6 ⟨⟨out, i⟩, k1⟩ hm
    try dsimp only at hm
    change W _ _ _ _ _ _ _ [(5, (tO (tI .i64) k1 out)), (6, ((tI .i64).is i)), (0, ((tL tS).is l)), (1, ((tL tS).is part))] [(7, Own (tI .i64) 3 k1 out.length)]
    cases n6 with
    | zero => rw [M.r04_Find_loop1.eq_1] at hm; cases hm
    | succ n6 =>
      rw [M.r04_Find_loop1.eq_2] at hm
      refine W.seq ?_
      refine W.seq ?_
      refine W.region ?_
      refine WL.op rfl (Op1.move (.tmp rfl)) ?_
      refine WL.op rfl (Op1.move (.tmp rfl)) ?_
      refine WL.op rfl (Op1.lenL Try.underlying22 (.tmp rfl)) ?_
      refine WL.op rfl (Op1.ltI (.tmp rfl) (.tmp rfl)) ?_
      refine WL.nil ?_
      refine WN.seq ?_
      refine W.cond (.tmp rfl) (fun hc7 => ?_) (fun hc7 => ?_)
      · have hp8 := of_decide_eq_true hc7
        rw [if_pos hp8] at hm
        refine W.skip ?_
        refine WN.seq ?_
        refine W.block ?_
        refine W.seq ?_
        refine W.region ?_
        refine WL.op rfl (Op1.move (.tmp rfl)) ?_
        refine WL.op rfl (Op1.move (.tmp rfl)) ?_
        refine WL.op rfl (Op1.move (.tmp rfl)) ?_
        obtain ⟨stands, hv9, hm⟩ := bind_some hm
        refine WL.op rfl (Op1.call Try.call12 (r04_Stands_spec _ _ _ _ _ hv9) ⟨(.tmp rfl), (.tmp rfl), (.tmp rfl), trivial⟩) ?_
        refine WL.nil ?_
        refine WN.seq ?_
        refine W.cond (.tmp rfl) (fun hc10 => ?_) (fun hc10 => ?_)
        · have hp11 := hc10
          rw [if_pos hp11] at hm
          refine W.seq ?_
          refine W.region ?_
          refine WL.op rfl (Op1.move (.tmp rfl)) ?_
          refine WL.op rfl (Op1.move (.tmp rfl)) ?_
          refine WL.op rfl (Op1.buildSlice (n := 1) (ys := [(0, i)]) (z := (0 : Int)) (xs := [i]) Try.underlying25 el3 ze3 ⟨rfl, (.tmp rfl), trivial⟩ (by simp) (by decide) rfl) ?_
          obtain ⟨out1, hv12, hm⟩ := bind_some hm
          refine WL.opR rfl (OpR.appC (key := 7) hv12 Try.underlying25 el3 (.tmp rfl) (.tmp rfl) rfl) (fun k2 => ?_)
          refine WL.op rfl (Op1.assign (.tmp rfl)) ?_
          refine WL.nil ?_
          refine WN.seq ?_
          refine W.region ?_
          refine WL.op rfl (Op1.move (.tmp rfl)) ?_
          refine WL.op rfl (Op1.move (.tmp rfl)) ?_
          refine WL.op rfl (Op1.lenL Try.underlying22 (.tmp rfl)) ?_
          obtain ⟨v, hv13, hm⟩ := bind_some hm
          refine WL.op rfl (Op1.addC hv13 (.tmp rfl) (.tmp rfl)) ?_
          refine WL.op rfl (Op1.assign (.tmp rfl)) ?_
          refine WL.nil ?_
          refine WN.block ?_
          exact WN.again n6 ((out1, v), k2) (Nat.lt_succ_self n6) hm ⟨Ent.q rfl, Ent.q rfl, Ent.q rfl, Ent.q rfl, trivial⟩ ⟨rfl, rfl, trivial⟩
        · have hp11 := ne_of_false hc10
          rw [if_neg hp11] at hm
          refine W.region ?_
          refine WL.op rfl (Op1.move (.tmp rfl)) ?_
          refine WL.lenL (s := 0) (.tmp rfl) fun hl14 => ?_
          refine WL.op rfl (Op1.addI1 (.tmp rfl) (.int (inR64.2 (by omega))) hp8 hl14) ?_
          refine WL.op rfl (Op1.assign (.tmp rfl)) ?_
          refine WL.nil ?_
          refine WN.block ?_
          exact WN.again n6 ((out, i + 1), k1) (Nat.lt_succ_self n6) hm ⟨Ent.q rfl, Ent.q rfl, Ent.q rfl, Ent.q rfl, trivial⟩ ⟨rfl, rfl, trivial⟩
      · have hp8 := of_decide_eq_false hc7
        rw [if_neg hp8] at hm
        refine W.exit rfl ?_
        have hr15 := Option.some.inj hm
        clear hm
        subst hr15
        have hm := hk5
        try dsimp only at hm
        refine WN.seq ?_
        refine W.seq ?_
        refine W.region ?_
        refine WL.op rfl (Op1.move (.tmp rfl)) ?_
        refine WL.op rfl (Op1.assign (.tmp rfl)) ?_
        refine WL.nil ?_
        refine WN.seq ?_
        have hr := Option.some.inj hm
        clear hm
        subst hr
        exact W.ret1 k1 rfl (.tmp rfl) ⟨rfl, rfl, trivial⟩

theorem wordseq_Count_spec (n : Nat) (l : List Str) (part : List Str) (r : Int) (hm : M.wordseq_Count n l part = some r) : FSpec Try.prog 18 [((tL tS).is l), ((tL tS).is part)] ((tI .i64).is r) := by
  unfold M.wordseq_Count at hm
  refine FSpec.of Try.func18 rfl rfl rfl (fun g0 => ?_)
  refine W.seq ?_
  refine W.region ?_
  refine WL.op rfl (Op1.assign (.int (inR64.2 (by omega)))) ?_
  refine WL.nil ?_
  refine WN.seq ?_
  refine W.seq ?_
  refine W.region ?_
  refine WL.op rfl (Op1.move (.tmp rfl)) ?_
  refine WL.op rfl (Op1.move (.tmp rfl)) ?_
  obtain ⟨findal, hv1, hm⟩ := bind_some hm
  refine WL.op rfl (Op1.call Try.call11 ((wordseq_FindAll_spec _ _ _ _ hv1).read fun _ _ _ => tO_tL) ⟨(.tmp rfl), (.tmp rfl), trivial⟩) ?_
  refine WL.op rfl (Op1.lenL Try.underlying25 (.tmp rfl)) ?_
  refine WL.op rfl (Op1.assign (.tmp rfl)) ?_
  refine WL.nil ?_
  refine WN.seq ?_
  have hr := Option.some.inj hm
  clear hm
  subst hr
  exact W.ret1 () rfl (.tmp rfl) trivial

theorem wordseq_Equal_spec (n : Nat) (a : List Str) (b : List Str) (r : Bool) (hm : M.wordseq_Equal n a b = some r) : FSpec Try.prog 20 [((tL tS).is a), ((tL tS).is b)] (tB.is r) := by
  unfold M.wordseq_Equal at hm
  refine FSpec.of Try.func20 rfl rfl rfl (fun g0 => ?_)
  refine W.seq ?_
  refine W.region ?_
  refine WL.op rfl (Op1.assign .bool) ?_
  refine WL.nil ?_
  refine WN.seq ?_
  refine W.seq ?_
  refine W.region ?_
  refine WL.op rfl (Op1.move (.tmp rfl)) ?_
  refine WL.op rfl (Op1.move (.tmp rfl)) ?_
  obtain ⟨string, hv1, hm⟩ := bind_some hm
  refine WL.op rfl (Op1.call Try.call25 (slices_Equal_string_string_spec _ _ _ _ hv1) ⟨(.tmp rfl), (.tmp rfl), trivial⟩) ?_
  refine WL.op rfl (Op1.assign (.tmp rfl)) ?_
  refine WL.nil ?_
  refine WN.seq ?_
  have hr := Option.some.inj hm
  clear hm
  subst hr
  exact W.ret1 () rfl (.tmp rfl) trivial

theorem law04_WordseqFinds_spec (n : Nat) (l : List Str) (part : List Str) (r : Bool) (hm : M.law04_WordseqFinds n l part = some r) : FSpec Try.prog 7 [((tL tS).is l), ((tL tS).is part)] (tB.is r) := by
  unfold M.law04_WordseqFinds at hm
  refine FSpec.of Try.func7 rfl rfl rfl (fun g0 => ?_)
  refine W.seq ?_
  refine W.region ?_
  refine WL.op rfl (Op1.assign .bool) ?_
  refine WL.nil ?_
  refine WN.seq ?_
  refine W.seq ?_
  refine W.seq ?_
  refine W.region ?_
  refine WL.op rfl (Op1.move (.tmp rfl)) ?_
  refine WL.op rfl (Op1.move (.tmp rfl)) ?_
  refine WL.op rfl (Op1.buildSlice (n := 2) (ys := [(0, l), (1, part)]) (z := ([] : List Str)) (xs := [l, part]) Try.underlying38 el22 ze22 ⟨rfl, (.tmp rfl), rfl, (.tmp rfl), trivial⟩ (by simp) (by decide) rfl) ?_
  obtain ⟨long, hv1, hm⟩ := bind_some hm
  refine WL.op rfl (Op1.call Try.call9 (law04_long_spec _ _ _ hv1) ⟨(.tmp rfl), trivial⟩) ?_
  refine WL.nil ?_
  refine WN.seq ?_
  refine W.cond (.tmp rfl) (fun hc2 => ?_) (fun hc2 => ?_)
  · have hp3 := hc2
    rw [if_pos hp3] at hm
    refine W.seq ?_
    refine W.region ?_
    obtain ⟨awake, hv4, hm⟩ := bind_some hm
    refine WL.op rfl (Op1.call Try.call10 (law04_awake_spec _ _ hv4) trivial) ?_
    refine WL.op rfl (Op1.assign (.tmp rfl)) ?_
    refine WL.nil ?_
    refine WN.seq ?_
    have hr := Option.some.inj hm
    clear hm
    subst hr
    exact W.ret1 () rfl (.tmp rfl) trivial
  · have hp3 := ne_of_false hc2
    rw [if_neg hp3] at hm
    refine W.skip ?_
    refine WN.seq ?_
    refine W.seq ?_
    refine W.region ?_
    refine WL.op rfl (Op1.move (.tmp rfl)) ?_
    refine WL.op rfl (Op1.move (.tmp rfl)) ?_
    obtain ⟨findal, hv5, hm⟩ := bind_some hm
    refine WL.op rfl (Op1.call Try.call11 ((wordseq_FindAll_spec _ _ _ _ hv5).read fun _ _ _ => tO_tL) ⟨(.tmp rfl), (.tmp rfl), trivial⟩) ?_
    refine WL.op rfl (Op1.move (.tmp rfl)) ?_
    refine WL.op rfl (Op1.move (.tmp rfl)) ?_
    obtain ⟨find, hv6, hm⟩ := bind_some hm
    refine WL.op rfl (Op1.call Try.call19 ((r04_Find_spec _ _ _ _ hv6).read fun _ _ _ => tO_tL) ⟨(.tmp rfl), (.tmp rfl), trivial⟩) ?_
    refine WL.op rfl (Op1.assign (.tmp rfl)) ?_
    refine WL.op rfl (Op1.assign (.tmp rfl)) ?_
    refine WL.nil ?_
    refine WN.seq ?_
    refine W.seq ?_
    obtain ⟨s7, hs8, hk9⟩ := bind_some hm
    clear hm
    refine W.join (fun s : Bool => s = s7) (fun s => [(31, (tB.is s)), (0, ((tL tS).is l)), (1, ((tL tS).is part)), (5, ((tL (tI .i64)).is findal)), (6, ((tL (tI .i64)).is find))]) (fun s => []) ?_ ?_
    · rintro v hj33
      try dsimp only at hj33
      subst hj33
      have hm := hk9
      clear hk9
      try dsimp only at hm
      change W _ _ _ _ _ _ _ [(31, (tB.is v)), (0, ((tL tS).is l)), (1, ((tL tS).is part)), (5, ((tL (tI .i64)).is findal)), (6, ((tL (tI .i64)).is find))] []
      refine W.cond (.tmp rfl) (fun hc13 => ?_) (fun hc13 => ?_)
      · have hp14 := hc13
        rw [if_pos hp14] at hm
        refine W.seq ?_
        refine W.region ?_
        refine WL.op rfl (Op1.assign .bool) ?_
        refine WL.nil ?_
        refine WN.seq ?_
        have hr := Option.some.inj hm
        clear hm
        subst hr
        exact W.ret1 () rfl (.tmp rfl) trivial
      · have hp14 := ne_of_false hc13
        rw [if_neg hp14] at hm
        refine W.skip ?_
        refine WN.seq ?_
        refine W.seq ?_
        refine W.seq ?_
        refine W.region ?_
        refine WL.op rfl (Op1.move (.tmp rfl)) ?_
        refine WL.op rfl (Op1.lenL Try.underlying25 (.tmp rfl)) ?_
        refine WL.op rfl (Op1.move (.int (inR64.2 (by omega)))) ?_
        refine WL.nil ?_
        refine WN.seq ?_
        refine W.block ?_
        obtain ⟨s15, hs16, hk17⟩ := bind_some hm
        clear hm
        refine W.loop (fun m (s : Int) => M.law04_WordseqFinds_loop1 findal find m s = some s15) (fun s => [(34, ((tI .i64).is s)), (0, ((tL tS).is l)), (1, ((tL tS).is part)), (5, ((tL (tI .i64)).is findal)), (6, ((tL (tI .i64)).is find)), (33, ((tI .i64).is (findal.length : Int)))]) (fun s => []) _ (0 : Int) hs16 ⟨Ent.q rfl, Ent.q rfl, Ent.q rfl, Ent.q rfl, Ent.q rfl, Ent.q rfl, trivial⟩ trivial ?_
        rintro n18 v1 hm
        try dsimp only at hm
        change W _ _ _ _ _ _ _ [(34, ((tI .i64).is v1)), (0, ((tL tS).is l)), (1, ((tL tS).is part)), (5, ((tL (tI .i64)).is findal)), (6, ((tL (tI .i64)).is find)), (33, ((tI .i64).is (findal.length : Int)))] []
        cases n18 with
        | zero => rw [M.law04_WordseqFinds_loop1.eq_1] at hm; cases hm
        | succ n18 =>
          rw [M.law04_WordseqFinds_loop1.eq_2] at hm
          refine W.seq ?_
          refine W.region ?_
          refine WL.op rfl (Op1.ltI (.tmp rfl) (.tmp rfl)) ?_
          refine WL.nil ?_
          refine WN.seq ?_
          refine W.seq ?_
          refine W.cond (.tmp rfl) (fun hc19 => ?_) (fun hc19 => ?_)
          · have hp20 := of_decide_eq_true hc19
            rw [if_pos hp20] at hm
            refine W.skip ?_
            refine WN.seq ?_
            refine W.seq ?_
            refine W.block ?_
            refine W.seq ?_
            refine W.region ?_
            refine WL.op rfl (Op1.move (.tmp rfl)) ?_
            refine WL.op rfl (Op1.assign (.tmp rfl)) ?_
            refine WL.nil ?_
            refine WN.seq ?_
            refine W.seq ?_
            obtain ⟨v2, hv21, hm⟩ := bind_some hm
            obtain ⟨v3, hv22, hm⟩ := bind_some hm
            refine W.draw [.c ((tL (tI .i64)).is findal), .c ((tI .i64).is v1), .c ((tI .i64).ptr v2), .c ((tI .i64).is v2), .c ((tL (tI .i64)).is find), .c ((tI .i64).is v1), .c ((tI .i64).ptr v3), .c ((tI .i64).is v3), .c (tB.is (decide (v2 ≠ v3)))] [([], [5]), ([], [7]), ([0, 1], []), ([2], []), ([], [6]), ([], [7]), ([4, 5], []), ([6], []), ([3, 7], [])] Try.mixed rfl rfl rfl rfl ⟨.inr (Op1.move (.tmp rfl)), .inr (Op1.move (.tmp rfl)), .inr (Op1.idx hv21 Try.underlying25 Try.sizeOf3 (.tmp rfl) (.tmp rfl)), .inr (Op1.load ty3 (.tmp rfl)), .inr (Op1.move (.tmp rfl)), .inr (Op1.move (.tmp rfl)), .inr (Op1.idx hv22 Try.underlying25 Try.sizeOf3 (.tmp rfl) (.tmp rfl)), .inr (Op1.load ty3 (.tmp rfl)), .inr (Op1.neI (.tmp rfl) (.tmp rfl)), trivial⟩ ?_
            refine WN.seq ?_
            refine W.cond (.tmp rfl) (fun hc23 => ?_) (fun hc23 => ?_)
            · have hp24 := of_decide_eq_true hc23
              rw [if_pos hp24] at hm
              refine W.seq ?_
              refine W.region ?_
              refine WL.op rfl (Op1.assign .bool) ?_
              refine WL.nil ?_
              refine WN.seq ?_
              have hr25 := Option.some.inj hm
              clear hm
              subst hr25
              have hm := hk17
              try dsimp only at hm
              have hr := Option.some.inj hm
              clear hm
              subst hr
              exact W.ret1 () rfl (.tmp rfl) trivial
            · have hp24 := of_decide_eq_false hc23
              rw [if_neg hp24] at hm
              refine W.skip ?_
              refine WN.block ?_
              refine WN.seq ?_
              refine W.region ?_
              refine WL.lenL (s := 5) (.tmp rfl) fun hl26 => ?_
              refine WL.op rfl (Op1.addI1 (.tmp rfl) (.int (inR64.2 (by omega))) hp20 hl26) ?_
              refine WL.op rfl (Op1.move (.tmp rfl)) ?_
              refine WL.nil ?_
              exact WN.again n18 (v1 + 1) (Nat.lt_succ_self n18) hm ⟨Ent.q rfl, Ent.q rfl, Ent.q rfl, Ent.q rfl, Ent.q rfl, Ent.q rfl, trivial⟩ trivial
          · have hp20 := of_decide_eq_false hc19
            rw [if_neg hp20] at hm
            refine W.exit rfl ?_
            have hr27 := Option.some.inj hm
            clear hm
            subst hr27
            have hm := hk17
            try dsimp only at hm
            refine WN.seq ?_
            refine W.seq ?_
            refine W.region ?_
            refine WL.op rfl (Op1.move (.tmp rfl)) ?_
            refine WL.op rfl (Op1.move (.tmp rfl)) ?_
            obtain ⟨equal, hv28, hm⟩ := bind_some hm
            refine WL.op rfl (Op1.call Try.call20 (wordseq_Equal_spec _ _ _ _ hv28) ⟨(.tmp rfl), (.tmp rfl), trivial⟩) ?_
            refine WL.op rfl (Op1.move (.tmp rfl)) ?_
            refine WL.op rfl (Op1.move (.tmp rfl)) ?_
            obtain ⟨same, hv29, hm⟩ := bind_some hm
            refine WL.op rfl (Op1.call Try.call15 (r04_Same_spec _ _ _ _ hv29) ⟨(.tmp rfl), (.tmp rfl), trivial⟩) ?_
            refine WL.op rfl (Op1.eqB Try.underlying4 (.tmp rfl) (.tmp rfl)) ?_
            refine WL.op rfl (Op1.move (.tmp rfl)) ?_
            rcases bcases (equal == same) with hb30 | hb30
            · have hp31 := hb30
              rw [if_pos hp31] at hm
              obtain ⟨awake1, hv32, hm⟩ := bind_some hm
              refine WL.run rfl rfl rfl rfl hb30 rfl rfl (Op1.call Try.call10 (law04_awake_spec _ _ hv32) trivial) ?_
              refine WL.op rfl (Op1.pickT (.tmp rfl) hb30 (.tmp rfl)) ?_
              refine WL.op rfl (Op1.assign (.tmp rfl)) ?_
              refine WL.nil ?_
              refine WN.seq ?_
              have hr := Option.some.inj hm
              clear hm
              subst hr
              exact W.ret1 () rfl (.tmp rfl) trivial
            · have hp31 := ne_of_false hb30
              rw [if_neg hp31] at hm
              refine WL.pass rfl rfl rfl rfl hb30 rfl rfl ?_
              refine WL.op rfl (Op1.pickF (.tmp rfl) hb30 .bool) ?_
              refine WL.op rfl (Op1.assign (.tmp rfl)) ?_
              refine WL.nil ?_
              refine WN.seq ?_
              have hr := Option.some.inj hm
              clear hm
              subst hr
              exact W.ret1 () rfl (.tmp rfl) trivial
    · have hm := hs8
      clear hs8
      refine W.region ?_
      refine WL.op rfl (Op1.move (.tmp rfl)) ?_
      refine WL.op rfl (Op1.lenL Try.underlying25 (.tmp rfl)) ?_
      refine WL.op rfl (Op1.move (.tmp rfl)) ?_
      refine WL.op rfl (Op1.lenL Try.underlying25 (.tmp rfl)) ?_
      refine WL.op rfl (Op1.neI (.tmp rfl) (.tmp rfl)) ?_
      refine WL.op rfl (Op1.move (.tmp rfl)) ?_
      rcases bcases (decide ((findal.length : Int) ≠ (find.length : Int))) with hb10 | hb10
      · have hp11 := of_decide_eq_true hb10
        rw [if_pos hp11] at hm
        refine WL.pass rfl rfl rfl rfl hb10 rfl rfl ?_
        refine WL.pass rfl rfl rfl rfl hb10 rfl rfl ?_
        refine WL.pass rfl rfl rfl rfl hb10 rfl rfl ?_
        refine WL.pass rfl rfl rfl rfl hb10 rfl rfl ?_
        refine WL.pass rfl rfl rfl rfl hb10 rfl rfl ?_
        refine WL.pass rfl rfl rfl rfl hb10 rfl rfl ?_
        refine WL.op rfl (Op1.pickT (.tmp rfl) hb10 .bool) ?_
        refine WL.nil ?_
        exact WN.meet true (Option.some.inj hm) ⟨Ent.q rfl, Ent.q rfl, Ent.q rfl, Ent.q rfl, Ent.q rfl, trivial⟩ trivial
      · have hp11 := of_decide_eq_false hb10
        rw [if_neg hp11] at hm
        refine WL.run rfl rfl rfl rfl hb10 rfl rfl (Op1.move (.tmp rfl)) ?_
        refine WL.run rfl rfl rfl rfl hb10 rfl rfl (Op1.move (.tmp rfl)) ?_
        obtain ⟨count, hv12, hm⟩ := bind_some hm
        refine WL.run rfl rfl rfl rfl hb10 rfl rfl (Op1.call Try.call18 (wordseq_Count_spec _ _ _ _ hv12) ⟨(.tmp rfl), (.tmp rfl), trivial⟩) ?_
        refine WL.run rfl rfl rfl rfl hb10 rfl rfl (Op1.move (.tmp rfl)) ?_
        refine WL.run rfl rfl rfl rfl hb10 rfl rfl (Op1.lenL Try.underlying25 (.tmp rfl)) ?_
        refine WL.run rfl rfl rfl rfl hb10 rfl rfl (Op1.neI (.tmp rfl) (.tmp rfl)) ?_
        refine WL.op rfl (Op1.pickF (.tmp rfl) hb10 (.tmp rfl)) ?_
        refine WL.nil ?_
        exact WN.meet (decide (count ≠ (find.length : Int))) (Option.some.inj hm) ⟨Ent.q rfl, Ent.q rfl, Ent.q rfl, Ent.q rfl, Ent.q rfl, trivial⟩ trivial

theorem r04_chosen_spec (l : List Int) (nth : Int) (r : (List Int)) (hm : M.r04_chosen l nth = some r) : FSpec Try.prog 29 [((tL (tI .i64)).is l), ((tI .i64).is nth)] ((tL (tI .i64)).is r) := by
  unfold M.r04_chosen at hm
  refine FSpec.of Try.func29 rfl rfl rfl (fun g0 => ?_)
  refine W.seq ?_
  refine W.region ?_
  refine WL.op rfl (Op1.assign (.nil (t := (tI .i64)))) ?_
  refine WL.nil ?_
  refine WN.seq ?_
  refine W.seq ?_
  refine W.seq ?_
  refine W.region ?_
  refine WL.op rfl (Op1.move (.tmp rfl)) ?_
  refine WL.op rfl (Op1.eqI (.tmp rfl) (.int (inR64.2 (by omega)))) ?_
  refine WL.nil ?_
  refine WN.seq ?_
  refine W.cond (.tmp rfl) (fun hc1 => ?_) (fun hc1 => ?_)
  · have hp2 := of_decide_eq_true hc1
    rw [if_pos hp2] at hm
    refine W.seq ?_
    refine W.region ?_
    refine WL.op rfl (Op1.move (.tmp rfl)) ?_
    refine WL.op rfl (Op1.assign (.tmp rfl)) ?_
    refine WL.nil ?_
    refine WN.seq ?_
    have hr := Option.some.inj hm
    clear hm
    subst hr
    exact W.ret1 () rfl (.tmp rfl) trivial
  · have hp2 := of_decide_eq_false hc1
    rw [if_neg hp2] at hm
    refine W.skip ?_
    refine WN.seq ?_
    refine W.seq ?_
    refine W.seq ?_
    refine W.region ?_
    refine WL.op rfl (Op1.move (.tmp rfl)) ?_
    refine WL.op rfl (Op1.ltI (.tmp rfl) (.int (inR64.2 (by omega)))) ?_
    refine WL.op rfl (Op1.move (.tmp rfl)) ?_
    rcases bcases (decide (nth < (1 : Int))) with hb3 | hb3
    · have hp4 := of_decide_eq_true hb3
      rw [if_pos hp4] at hm
      refine WL.pass rfl rfl rfl rfl hb3 rfl rfl ?_
      refine WL.pass rfl rfl rfl rfl hb3 rfl rfl ?_
      refine WL.pass rfl rfl rfl rfl hb3 rfl rfl ?_
      refine WL.pass rfl rfl rfl rfl hb3 rfl rfl ?_
      refine WL.op rfl (Op1.pickT (.tmp rfl) hb3 .bool) ?_
      refine WL.nil ?_
      refine WN.seq ?_
      refine W.cond (.tmp rfl) (fun hc5 => ?_) (fun hc5 => ?_)
      · have hp6 := hc5
        rw [if_pos hp6] at hm
        refine W.seq ?_
        refine W.region ?_
        refine WL.op rfl (Op1.assign (.nil (t := (tI .i64)))) ?_
        refine WL.nil ?_
        refine WN.seq ?_
        have hr := Option.some.inj hm
        clear hm
        subst hr
        exact W.ret1 () rfl (.tmp rfl) trivial
      · have hp6 := ne_of_false hc5
        rw [if_neg hp6] at hm
        refine W.skip ?_
        refine WN.seq ?_
        refine W.seq ?_
        refine W.region ?_
        refine WL.op rfl (Op1.move (.tmp rfl)) ?_
        refine WL.op rfl (Op1.move (.tmp rfl)) ?_
        obtain ⟨v, hv7, hm⟩ := bind_some hm
        refine WL.op rfl (Op1.subC hv7 (.tmp rfl) (.int (inR64.2 (by omega)))) ?_
        obtain ⟨v1, hv8, hm⟩ := bind_some hm
        refine WL.op rfl (Op1.idx hv8 Try.underlying25 Try.sizeOf3 (.tmp rfl) (.tmp rfl)) ?_
        refine WL.op rfl (Op1.load ty3 (.tmp rfl)) ?_
        refine WL.op rfl (Op1.buildSlice (n := 1) (ys := [(0, v1)]) (z := (0 : Int)) (xs := [v1]) Try.underlying25 el3 ze3 ⟨rfl, (.tmp rfl), trivial⟩ (by simp) (by decide) rfl) ?_
        refine WL.op rfl (Op1.assign (.tmp rfl)) ?_
        refine WL.nil ?_
        refine WN.seq ?_
        have hr := Option.some.inj hm
        clear hm
        subst hr
        exact W.ret1 () rfl (.tmp rfl) trivial
    · have hp4 := of_decide_eq_false hb3
      rw [if_neg hp4] at hm
      refine WL.run rfl rfl rfl rfl hb3 rfl rfl (Op1.move (.tmp rfl)) ?_
      refine WL.run rfl rfl rfl rfl hb3 rfl rfl (Op1.move (.tmp rfl)) ?_
      refine WL.run rfl rfl rfl rfl hb3 rfl rfl (Op1.lenL Try.underlying25 (.tmp rfl)) ?_
      refine WL.run rfl rfl rfl rfl hb3 rfl rfl (Op1.gtI (.tmp rfl) (.tmp rfl)) ?_
      refine WL.op rfl (Op1.pickF (.tmp rfl) hb3 (.tmp rfl)) ?_
      refine WL.nil ?_
      refine WN.seq ?_
      refine W.cond (.tmp rfl) (fun hc9 => ?_) (fun hc9 => ?_)
      · have hp10 := of_decide_eq_true hc9
        rw [if_pos hp10] at hm
        refine W.seq ?_
        refine W.region ?_
        refine WL.op rfl (Op1.assign (.nil (t := (tI .i64)))) ?_
        refine WL.nil ?_
        refine WN.seq ?_
        have hr := Option.some.inj hm
        clear hm
        subst hr
        exact W.ret1 () rfl (.tmp rfl) trivial
      · have hp10 := of_decide_eq_false hc9
        rw [if_neg hp10] at hm
        refine W.skip ?_
        refine WN.seq ?_
        refine W.seq ?_
        refine W.region ?_
        refine WL.op rfl (Op1.move (.tmp rfl)) ?_
        refine WL.op rfl (Op1.move (.tmp rfl)) ?_
        obtain ⟨v2, hv11, hm⟩ := bind_some hm
        refine WL.op rfl (Op1.subC hv11 (.tmp rfl) (.int (inR64.2 (by omega)))) ?_
        obtain ⟨v3, hv12, hm⟩ := bind_some hm
        refine WL.op rfl (Op1.idx hv12 Try.underlying25 Try.sizeOf3 (.tmp rfl) (.tmp rfl)) ?_
        refine WL.op rfl (Op1.load ty3 (.tmp rfl)) ?_
        refine WL.op rfl (Op1.buildSlice (n := 1) (ys := [(0, v3)]) (z := (0 : Int)) (xs := [v3]) Try.underlying25 el3 ze3 ⟨rfl, (.tmp rfl), trivial⟩ (by simp) (by decide) rfl) ?_
        refine WL.op rfl (Op1.assign (.tmp rfl)) ?_
        refine WL.nil ?_
        refine WN.seq ?_
        have hr := Option.some.inj hm
        clear hm
        subst hr
        exact W.ret1 () rfl (.tmp rfl) trivial

theorem r04_in_spec (n : Nat) (l : List Int) (n0_ : Int) (r : Bool) (hm : M.r04_in n l n0_ = some r) : FSpec Try.prog 30 [((tL (tI .i64)).is l), ((tI .i64).is n0_)] (tB.is r) := by
  unfold M.r04_in at hm
  refine FSpec.of Try.func30 rfl rfl rfl (fun g0 => ?_)
  refine W.seq ?_
  refine W.region ?_
  refine WL.op rfl (Op1.assign .bool) ?_
  refine WL.nil ?_
  refine WN.seq ?_
  refine W.seq ?_
  refine W.seq ?_
  refine W.region ?_
  refine WL.op rfl (Op1.assign (.int (inR64.2 (by omega)))) ?_
  refine WL.nil ?_
  refine WN.seq ?_
  refine W.block ?_
  obtain ⟨s1, hs2, hk3⟩ := bind_some hm
  clear hm
  refine W.loop (fun m (s : Int) => M.r04_in_loop1 l n0_ m s = some s1) (fun s => [(5, ((tI .i64).is s)), (0, ((tL (tI .i64)).is l)), (1, ((tI .i64).is n0_))]) (fun s => []) _ (0 : Int) hs2 ⟨Ent.q rfl, Ent.q rfl, Ent.q rfl, trivial⟩ trivial ?_
  rintro n4 i hm
  try dsimp only at hm
  change W _ _ _ _ _ _ _ [(5, ((tI .i64).is i)), (0, ((tL (tI .i64)).is l)), (1, ((tI .i64).is n0_))] []
  cases n4 with
  | zero => rw [M.r04_in_loop1.eq_1] at hm; cases hm
  | succ n4 =>
    rw [M.r04_in_loop1.eq_2] at hm
    refine W.seq ?_
    refine W.seq ?_
    refine W.region ?_
    refine WL.op rfl (Op1.move (.tmp rfl)) ?_
    refine WL.op rfl (Op1.move (.tmp rfl)) ?_
    refine WL.op rfl (Op1.lenL Try.underlying25 (.tmp rfl)) ?_
    refine WL.op rfl (Op1.ltI (.tmp rfl) (.tmp rfl)) ?_
    refine WL.nil ?_
    refine WN.seq ?_
    refine W.cond (.tmp rfl) (fun hc5 => ?_) (fun hc5 => ?_)
    · have hp6 := of_decide_eq_true hc5
      rw [if_pos hp6] at hm
      refine W.skip ?_
      refine WN.seq ?_
      refine W.seq ?_
      refine W.block ?_
      refine W.seq ?_
      refine W.region ?_
      refine WL.op rfl (Op1.move (.tmp rfl)) ?_
      refine WL.op rfl (Op1.move (.tmp rfl)) ?_
      obtain ⟨v, hv7, hm⟩ := bind_some hm
      refine WL.op rfl (Op1.idx hv7 Try.underlying25 Try.sizeOf3 (.tmp rfl) (.tmp rfl)) ?_
      refine WL.op rfl (Op1.load ty3 (.tmp rfl)) ?_
      refine WL.op rfl (Op1.move (.tmp rfl)) ?_
      refine WL.op rfl (Op1.eqI (.tmp rfl) (.tmp rfl)) ?_
      refine WL.nil ?_
      refine WN.seq ?_
      refine W.cond (.tmp rfl) (fun hc8 => ?_) (fun hc8 => ?_)
      · have hp9 := of_decide_eq_true hc8
        rw [if_pos hp9] at hm
        refine W.seq ?_
        refine W.region ?_
        refine WL.op rfl (Op1.assign .bool) ?_
        refine WL.nil ?_
        refine WN.seq ?_
        have hr10 := Option.some.inj hm
        clear hm
        subst hr10
        have hm := hk3
        try dsimp only at hm
        have hr := Option.some.inj hm
        clear hm
        subst hr
        exact W.ret1 () rfl (.tmp rfl) trivial
      · have hp9 := of_decide_eq_false hc8
        rw [if_neg hp9] at hm
        refine W.skip ?_
        refine WN.block ?_
        refine WN.seq ?_
        refine W.region ?_
        refine WL.op rfl (Op1.move (.tmp rfl)) ?_
        refine WL.lenL (s := 0) (.tmp rfl) fun hl11 => ?_
        refine WL.op rfl (Op1.addI1 (.tmp rfl) (.int (inR64.2 (by omega))) hp6 hl11) ?_
        refine WL.op rfl (Op1.assign (.tmp rfl)) ?_
        refine WL.nil ?_
        exact WN.again n4 (i + 1) (Nat.lt_succ_self n4) hm ⟨Ent.q rfl, Ent.q rfl, Ent.q rfl, trivial⟩ trivial
    · have hp6 := of_decide_eq_false hc5
      rw [if_neg hp6] at hm
      refine W.exit rfl ?_
      have hr12 := Option.some.inj hm
      clear hm
      subst hr12
      have hm := hk3
      try dsimp only at hm
      refine WN.seq ?_
      refine W.seq ?_
      refine W.region ?_
      refine WL.op rfl (Op1.assign .bool) ?_
      refine WL.nil ?_
      refine WN.seq ?_
      have hr := Option.some.inj hm
      clear hm
      subst hr
      exact W.ret1 () rfl (.tmp rfl) trivial

theorem r04_Replace_spec (n : Nat) (l : List Str) (old : List Str) (fresh : List Str) (nth : Int) (r : (List Str) × Int) (hm : M.r04_Replace n l old fresh nth = some r) : FSpec Try.prog 14 [((tL tS).is l), ((tL tS).is old), ((tL tS).is fresh), ((tI .i64).is nth)] (Asn.tuple2 ((tL tS).is r.1) ((tI .i64).is r.2)) := by
  unfold M.r04_Replace at hm
  refine FSpec.of Try.func14 rfl rfl rfl (fun g0 => ?_)
  refine W.seq ?_
  refine W.region ?_
  refine WL.op rfl (Op1.assign (.nil (t := tS))) ?_
  refine WL.op rfl (Op1.assign (.int (inR64.2 (by omega)))) ?_
  refine WL.nil ?_
  refine WN.seq ?_
  refine W.seq ?_
  refine W.region ?_
  refine WL.op rfl (Op1.move (.tmp rfl)) ?_
  refine WL.op rfl (Op1.move (.tmp rfl)) ?_
  obtain ⟨find, hv1, hm⟩ := bind_some hm
  refine WL.op rfl (Op1.call Try.call19 ((r04_Find_spec _ _ _ _ hv1).read fun _ _ _ => tO_tL) ⟨(.tmp rfl), (.tmp rfl), trivial⟩) ?_
  refine WL.op rfl (Op1.move (.tmp rfl)) ?_
  obtain ⟨chosen, hv2, hm⟩ := bind_some hm
  refine WL.op rfl (Op1.call Try.call29 (r04_chosen_spec _ _ _ hv2) ⟨(.tmp rfl), (.tmp rfl), trivial⟩) ?_
  refine WL.op rfl (Op1.assign (.tmp rfl)) ?_
  refine WL.nil ?_
  refine WN.seq ?_
  refine W.seq ?_
  refine W.region ?_
  refine WL.opR rfl (OpR.buildSlice (n := 0) (ys := []) (z := ([] : Str)) (xs := ([] : List Str)) 18 Try.underlying22 el9 ze9 trivial (by simp) (by decide) rfl) (fun k => ?_)
  refine WL.op rfl (Op1.assign (.tmp rfl)) ?_
  refine WL.nil ?_
  refine WN.seq ?_
  refine W.seq ?_
  refine W.seq ?_
  refine W.region ?_
  refine WL.op rfl (Op1.assign (.int (inR64.2 (by omega)))) ?_
  refine WL.nil ?_
  refine WN.seq ?_
  refine W.block ?_
  obtain ⟨s3, hs4, hk5⟩ := bind_some hm
  clear hm
  refine W.loop (fun m (s : ((List Str) × Int) × Tok) => M.r04_Replace_loop1 l old fresh chosen m s.1.1 s.1.2 = some s3) (fun s => [(11, (tO tS s.2 s.1.1)), (12, ((tI .i64).is s.1.2)), (0, ((tL tS).is l)), (1, ((tL tS).is old)), (2, ((tL tS).is fresh)), (10, ((tL (tI .i64)).is chosen))]) (fun s => [(18, Own tS 9 s.2 s.1.1.length)]) _ ((([] : List Str), (0 : Int)), k) hs4 ⟨Ent.q rfl, Ent.q rfl, Ent.q rfl, Ent.q rfl, Ent.q rfl, Ent.q rfl, trivial⟩ ⟨rfl, rfl, trivial⟩ ?_
  rintro n6 ⟨⟨out, i⟩, k1⟩ hm
  try dsimp only at hm
  change W _ _ _ _ _ _ _ [(11, (tO tS k1 out)), (12, ((tI .i64).is i)), (0, ((tL tS).is l)), (1, ((tL tS).is old)), (2, ((tL tS).is fresh)), (10, ((tL (tI .i64)).is chosen))] [(18, Own tS 9 k1 out.length)]
  cases n6 with
  | zero => rw [M.r04_Replace_loop1.eq_1] at hm; cases hm
  | succ n6 =>
    rw [M.r04_Replace_loop1.eq_2] at hm
    refine W.seq ?_
    refine W.seq ?_
    refine W.region ?_
    refine WL.op rfl (Op1.move (.tmp rfl)) ?_
    refine WL.op rfl (Op1.move (.tmp rfl)) ?_
    refine WL.op rfl (Op1.lenL Try.underlying22 (.tmp rfl)) ?_
    refine WL.op rfl (Op1.ltI (.tmp rfl) (.tmp rfl)) ?_
    refine WL.nil ?_
    refine WN.seq ?_
    refine W.cond (.tmp rfl) (fun hc7 => ?_) (fun hc7 => ?_)
    · have hp8 := of_decide_eq_true hc7
      rw [if_pos hp8] at hm
      refine W.skip ?_
      refine WN.seq ?_
      refine W.seq ?_
      refine W.block ?_
      refine W.seq ?_
      refine W.region ?_
      refine WL.op rfl (Op1.move (.tmp rfl)) ?_
      refine WL.op rfl (Op1.move (.tmp rfl)) ?_
      obtain ⟨in0_, hv9, hm⟩ := bind_some hm
      refine WL.op rfl (Op1.call Try.call30 (r04_in_spec _ _ _ _ hv9) ⟨(.tmp rfl), (.tmp rfl), trivial⟩) ?_
      refine WL.nil ?_
      refine WN.seq ?_
      refine W.cond (.tmp rfl) (fun hc10 => ?_) (fun hc10 => ?_)
      · have hp11 := hc10
        rw [if_pos hp11] at hm
        refine W.seq ?_
        refine W.region ?_
        refine WL.op rfl (Op1.move (.tmp rfl)) ?_
        refine WL.op rfl (Op1.move (.tmp rfl)) ?_
        obtain ⟨out1, hv12, hm⟩ := bind_some hm
        refine WL.opR rfl (OpR.appC (key := 18) hv12 Try.underlying22 el9 (.tmp rfl) (.tmp rfl) rfl) (fun k2 => ?_)
        refine WL.op rfl (Op1.assign (.tmp rfl)) ?_
        refine WL.nil ?_
        refine WN.seq ?_
        refine W.region ?_
        refine WL.op rfl (Op1.move (.tmp rfl)) ?_
        refine WL.op rfl (Op1.move (.tmp rfl)) ?_
        refine WL.op rfl (Op1.lenL Try.underlying22 (.tmp rfl)) ?_
        obtain ⟨v, hv13, hm⟩ := bind_some hm
        refine WL.op rfl (Op1.subC hv13 (.tmp rfl) (.int (inR64.2 (by omega)))) ?_
        obtain ⟨v1, hv14, hm⟩ := bind_some hm
        refine WL.op rfl (Op1.addC hv14 (.tmp rfl) (.tmp rfl)) ?_
        refine WL.op rfl (Op1.assign (.tmp rfl)) ?_
        refine WL.nil ?_
        refine WN.block ?_
        refine WN.seq ?_
        refine W.region ?_
        refine WL.op rfl (Op1.move (.tmp rfl)) ?_
        obtain ⟨v2, hv15, hm⟩ := bind_some hm
        refine WL.op rfl (Op1.addC hv15 (.tmp rfl) (.int (inR64.2 (by omega)))) ?_
        refine WL.op rfl (Op1.assign (.tmp rfl)) ?_
        refine WL.nil ?_
        exact WN.again n6 ((out1, v2), k2) (Nat.lt_succ_self n6) hm ⟨Ent.q rfl, Ent.q rfl, Ent.q rfl, Ent.q rfl, Ent.q rfl, Ent.q rfl, trivial⟩ ⟨rfl, rfl, trivial⟩
      · have hp11 := ne_of_false hc10
        rw [if_neg hp11] at hm
        refine W.region ?_
        refine WL.op rfl (Op1.move (.tmp rfl)) ?_
        refine WL.op rfl (Op1.move (.tmp rfl)) ?_
        refine WL.op rfl (Op1.move (.tmp rfl)) ?_
        obtain ⟨v3, hv16, hm⟩ := bind_some hm
        refine WL.op rfl (Op1.idx hv16 Try.underlying22 Try.sizeOf9 (.tmp rfl) (.tmp rfl)) ?_
        refine WL.op rfl (Op1.load ty9 (.tmp rfl)) ?_
        refine WL.op rfl (Op1.buildSlice (n := 1) (ys := [(0, v3)]) (z := ([] : Str)) (xs := [v3]) Try.underlying22 el9 ze9 ⟨rfl, (.tmp rfl), trivial⟩ (by simp) (by decide) rfl) ?_
        obtain ⟨out2, hv17, hm⟩ := bind_some hm
        refine WL.opR rfl (OpR.appC (key := 18) hv17 Try.underlying22 el9 (.tmp rfl) (.tmp rfl) rfl) (fun k3 => ?_)
        refine WL.op rfl (Op1.assign (.tmp rfl)) ?_
        refine WL.nil ?_
        refine WN.block ?_
        refine WN.seq ?_
        refine W.region ?_
        refine WL.op rfl (Op1.move (.tmp rfl)) ?_
        refine WL.lenL (s := 0) (.tmp rfl) fun hl18 => ?_
        refine WL.op rfl (Op1.addI1 (.tmp rfl) (.int (inR64.2 (by omega))) hp8 hl18) ?_
        refine WL.op rfl (Op1.assign (.tmp rfl)) ?_
        refine WL.nil ?_
        exact WN.again n6 ((out2, i + 1), k3) (Nat.lt_succ_self n6) hm ⟨Ent.q rfl, Ent.q rfl, Ent.q rfl, Ent.q rfl, Ent.q rfl, Ent.q rfl, trivial⟩ ⟨rfl, rfl, trivial⟩
    · have hp8 := of_decide_eq_false hc7
      rw [if_neg hp8] at hm
      refine W.exit rfl ?_
      have hr19 := Option.some.inj hm
      clear hm
      subst hr19
      have hm := hk5
      try dsimp only at hm
      refine WN.seq ?_
      refine W.seq ?_
      refine W.region ?_
      refine WL.op rfl (Op1.move (.tmp rfl)) ?_
      refine WL.op rfl (Op1.move (.tmp rfl)) ?_
      refine WL.op rfl (Op1.lenL Try.underlying25 (.tmp rfl)) ?_
      refine WL.op rfl (Op1.assign (.tmp rfl)) ?_
      refine WL.op rfl (Op1.assign (.tmp rfl)) ?_
      refine WL.nil ?_
      refine WN.seq ?_
      have hr := Option.some.inj hm
      clear hm
      subst hr
      exact W.ret2 () rfl rfl (Opd.own (.tmp rfl)) (.tmp rfl) trivial

theorem law04_WordseqReplaces_spec (n : Nat) (l : List Str) (old : List Str) (fresh : List Str) (nth : Int) (r : Bool) (hm : M.law04_WordseqReplaces n l old fresh nth = some r) : FSpec Try.prog 4 [((tL tS).is l), ((tL tS).is old), ((tL tS).is fresh), ((tI .i64).is nth)] (tB.is r) := by
  unfold M.law04_WordseqReplaces at hm
  refine FSpec.of Try.func4 rfl rfl rfl (fun g0 => ?_)
  refine W.seq ?_
  refine W.region ?_
  refine WL.op rfl (Op1.assign .bool) ?_
  refine WL.nil ?_
  refine WN.seq ?_
  refine W.seq ?_
  obtain ⟨s1, hs2, hk3⟩ := bind_some hm
  clear hm
  refine W.join (fun s : Bool => s = s1) (fun s => [(23, (tB.is s)), (0, ((tL tS).is l)), (1, ((tL tS).is old)), (2, ((tL tS).is fresh)), (3, ((tI .i64).is nth))]) (fun s => []) ?_ ?_
  · rintro v hj22
    try dsimp only at hj22
    subst hj22
    have hm := hk3
    clear hk3
    try dsimp only at hm
    change W _ _ _ _ _ _ _ [(23, (tB.is v)), (0, ((tL tS).is l)), (1, ((tL tS).is old)), (2, ((tL tS).is fresh)), (3, ((tI .i64).is nth))] []
    refine W.cond (.tmp rfl) (fun hc7 => ?_) (fun hc7 => ?_)
    · have hp8 := hc7
      rw [if_pos hp8] at hm
      refine W.seq ?_
      refine W.region ?_
      obtain ⟨awake, hv9, hm⟩ := bind_some hm
      refine WL.op rfl (Op1.call Try.call10 (law04_awake_spec _ _ hv9) trivial) ?_
      refine WL.op rfl (Op1.assign (.tmp rfl)) ?_
      refine WL.nil ?_
      refine WN.seq ?_
      have hr := Option.some.inj hm
      clear hm
      subst hr
      exact W.ret1 () rfl (.tmp rfl) trivial
    · have hp8 := ne_of_false hc7
      rw [if_neg hp8] at hm
      refine W.skip ?_
      refine WN.seq ?_
      refine W.seq ?_
      refine W.region ?_
      refine WL.opR rfl (OpR.buildSlice (n := 0) (ys := []) (z := ([] : Str)) (xs := ([] : List Str)) 25 Try.underlying22 el9 ze9 trivial (by simp) (by decide) rfl) (fun k => ?_)
      refine WL.op rfl (Op1.move (.tmp rfl)) ?_
      obtain ⟨out, hv10, hm⟩ := bind_some hm
      refine WL.opR rfl (OpR.appC (key := 25) hv10 Try.underlying22 el9 (.tmp rfl) (.tmp rfl) rfl) (fun k1 => ?_)
      refine WL.op rfl (Op1.assign (.tmp rfl)) ?_
      refine WL.nil ?_
      refine WN.seq ?_
      refine W.seq ?_
      refine W.region ?_
      refine WL.op rfl (Op1.move (.tmp rfl)) ?_
      refine WL.op rfl (Op1.move (.tmp rfl)) ?_
      refine WL.op rfl (Op1.move (.tmp rfl)) ?_
      refine WL.op rfl (Op1.move (.tmp rfl)) ?_
      obtain ⟨replac, hv11, hm⟩ := bind_some hm
      refine WL.op rfl (Op1.call Try.call13 (wordseq_Replace_spec _ _ _ _ _ _ hv11) ⟨(.tmp rfl), (.tmp rfl), (.tmp rfl), (.tmp rfl), trivial⟩) ?_
      refine WL.op rfl (Op1.move (.tmp rfl)) ?_
      refine WL.op rfl (Op1.extract0 (.tmp rfl)) ?_
      refine WL.op rfl (Op1.extract1 (.tmp rfl)) ?_
      refine WL.op rfl (Op1.assign (.tmp rfl)) ?_
      refine WL.op rfl (Op1.assign (.tmp rfl)) ?_
      refine WL.nil ?_
      refine WN.seq ?_
      refine W.seq ?_
      refine W.region ?_
      refine WL.op rfl (Op1.move (.tmp rfl)) ?_
      refine WL.op rfl (Op1.move (.tmp rfl)) ?_
      refine WL.op rfl (Op1.move (.tmp rfl)) ?_
      refine WL.op rfl (Op1.move (.tmp rfl)) ?_
      obtain ⟨replac1, hv12, hm⟩ := bind_some hm
      refine WL.op rfl (Op1.call Try.call14 (r04_Replace_spec _ _ _ _ _ _ hv12) ⟨(.tmp rfl), (.tmp rfl), (.tmp rfl), (.tmp rfl), trivial⟩) ?_
      refine WL.op rfl (Op1.move (.tmp rfl)) ?_
      refine WL.op rfl (Op1.extract0 (.tmp rfl)) ?_
      refine WL.op rfl (Op1.extract1 (.tmp rfl)) ?_
      refine WL.op rfl (Op1.assign (.tmp rfl)) ?_
      refine WL.op rfl (Op1.assign (.tmp rfl)) ?_
      refine WL.nil ?_
      refine WN.seq ?_
      refine W.seq ?_
      refine W.region ?_
      refine WL.op rfl (Op1.move (.tmp rfl)) ?_
      refine WL.op rfl (Op1.move (.tmp rfl)) ?_
      obtain ⟨same, hv13, hm⟩ := bind_some hm
      refine WL.op rfl (Op1.call Try.call15 (r04_Same_spec _ _ _ _ hv13) ⟨(.tmp rfl), (.tmp rfl), trivial⟩) ?_
      refine WL.op rfl (Op1.move (.tmp rfl)) ?_
      rcases bcases (same) with hb14 | hb14
      · have hp15 := hb14
        rw [if_pos hp15] at hm
        refine WL.run rfl rfl rfl rfl hb14 rfl rfl (Op1.move (.tmp rfl)) ?_
        refine WL.run rfl rfl rfl rfl hb14 rfl rfl (Op1.move (.tmp rfl)) ?_
        refine WL.run rfl rfl rfl rfl hb14 rfl rfl (Op1.eqI (.tmp rfl) (.tmp rfl)) ?_
        refine WL.op rfl (Op1.pickT (.tmp rfl) hb14 (.tmp rfl)) ?_
        refine WL.op rfl (Op1.move (.tmp rfl)) ?_
        rcases bcases (decide (replac.2 = replac1.2)) with hb16 | hb16
        · have hp17 := of_decide_eq_true hb16
          rw [if_pos hp17] at hm
          refine WL.run rfl rfl rfl rfl hb16 rfl rfl (Op1.move (.tmp rfl)) ?_
          refine WL.run rfl rfl rfl rfl hb16 rfl rfl (Op1.move (.tmp rfl)) ?_
          obtain ⟨same1, hv18, hm⟩ := bind_some hm
          refine WL.run rfl rfl rfl rfl hb16 rfl rfl (Op1.call Try.call15 (r04_Same_spec _ _ _ _ hv18) ⟨(.tmp rfl), (Opd.own (.tmp rfl)), trivial⟩) ?_
          refine WL.op rfl (Op1.pickT (.tmp rfl) hb16 (.tmp rfl)) ?_
          refine WL.op rfl (Op1.move (.tmp rfl)) ?_
          rcases bcases (same1) with hb19 | hb19
          · have hp20 := hb19
            rw [if_pos hp20] at hm
            obtain ⟨awake1, hv21, hm⟩ := bind_some hm
            refine WL.run rfl rfl rfl rfl hb19 rfl rfl (Op1.call Try.call10 (law04_awake_spec _ _ hv21) trivial) ?_
            refine WL.op rfl (Op1.pickT (.tmp rfl) hb19 (.tmp rfl)) ?_
            refine WL.op rfl (Op1.assign (.tmp rfl)) ?_
            refine WL.nil ?_
            refine WN.seq ?_
            have hr := Option.some.inj hm
            clear hm
            subst hr
            exact W.ret1 () rfl (.tmp rfl) trivial
          · have hp20 := ne_of_false hb19
            rw [if_neg hp20] at hm
            refine WL.pass rfl rfl rfl rfl hb19 rfl rfl ?_
            refine WL.op rfl (Op1.pickF (.tmp rfl) hb19 .bool) ?_
            refine WL.op rfl (Op1.assign (.tmp rfl)) ?_
            refine WL.nil ?_
            refine WN.seq ?_
            have hr := Option.some.inj hm
            clear hm
            subst hr
            exact W.ret1 () rfl (.tmp rfl) trivial
        · have hp17 := of_decide_eq_false hb16
          rw [if_neg hp17] at hm
          refine WL.pass rfl rfl rfl rfl hb16 rfl rfl ?_
          refine WL.pass rfl rfl rfl rfl hb16 rfl rfl ?_
          refine WL.pass rfl rfl rfl rfl hb16 rfl rfl ?_
          refine WL.op rfl (Op1.pickF (.tmp rfl) hb16 .bool) ?_
          refine WL.op rfl (Op1.move (.tmp rfl)) ?_
          refine WL.pass rfl rfl rfl rfl rfl rfl rfl ?_
          refine WL.op rfl (Op1.pickF (.tmp rfl) rfl .bool) ?_
          refine WL.op rfl (Op1.assign (.tmp rfl)) ?_
          refine WL.nil ?_
          refine WN.seq ?_
          have hr := Option.some.inj hm
          clear hm
          subst hr
          exact W.ret1 () rfl (.tmp rfl) trivial
      · have hp15 := ne_of_false hb14
        rw [if_neg hp15] at hm
        refine WL.pass rfl rfl rfl rfl hb14 rfl rfl ?_
        refine WL.pass rfl rfl rfl rfl hb14 rfl rfl ?_
        refine WL.pass rfl rfl rfl rfl hb14 rfl rfl ?_
        refine WL.op rfl (Op1.pickF (.tmp rfl) hb14 .bool) ?_
        refine WL.op rfl (Op1.move (.tmp rfl)) ?_
        refine WL.pass rfl rfl rfl rfl rfl rfl rfl ?_
        refine WL.pass rfl rfl rfl rfl rfl rfl rfl ?_
        refine WL.pass rfl rfl rfl rfl rfl rfl rfl ?_
        refine WL.op rfl (Op1.pickF (.tmp rfl) rfl .bool) ?_
        refine WL.op rfl (Op1.move (.tmp rfl)) ?_
        refine WL.pass rfl rfl rfl rfl rfl rfl rfl ?_
        refine WL.op rfl (Op1.pickF (.tmp rfl) rfl .bool) ?_
        refine WL.op rfl (Op1.assign (.tmp rfl)) ?_
        refine WL.nil ?_
        refine WN.seq ?_
        have hr := Option.some.inj hm
        clear hm
        subst hr
        exact W.ret1 () rfl (.tmp rfl) trivial
  · have hm := hs2
    clear hs2
    refine W.region ?_
    refine WL.op rfl (Op1.move (.tmp rfl)) ?_
    refine WL.op rfl (Op1.move (.tmp rfl)) ?_
    refine WL.op rfl (Op1.move (.tmp rfl)) ?_
    refine WL.op rfl (Op1.buildSlice (n := 3) (ys := [(0, l), (1, old), (2, fresh)]) (z := ([] : List Str)) (xs := [l, old, fresh]) Try.underlying38 el22 ze22 ⟨rfl, (.tmp rfl), rfl, (.tmp rfl), rfl, (.tmp rfl), trivial⟩ (by simp) (by decide) rfl) ?_
    obtain ⟨long, hv4, hm⟩ := bind_some hm
    refine WL.op rfl (Op1.call Try.call9 (law04_long_spec _ _ _ hv4) ⟨(.tmp rfl), trivial⟩) ?_
    refine WL.op rfl (Op1.move (.tmp rfl)) ?_
    rcases bcases (long) with hb5 | hb5
    · have hp6 := hb5
      rw [if_pos hp6] at hm
      refine WL.pass rfl rfl rfl rfl hb5 rfl rfl ?_
      refine WL.pass rfl rfl rfl rfl hb5 rfl rfl ?_
      refine WL.pass rfl rfl rfl rfl hb5 rfl rfl ?_
      refine WL.op rfl (Op1.pickT (.tmp rfl) hb5 .bool) ?_
      refine WL.nil ?_
      exact WN.meet true (Option.some.inj hm) ⟨Ent.q rfl, Ent.q rfl, Ent.q rfl, Ent.q rfl, Ent.q rfl, trivial⟩ trivial
    · have hp6 := ne_of_false hb5
      rw [if_neg hp6] at hm
      refine WL.run rfl rfl rfl rfl hb5 rfl rfl (Op1.move (.tmp rfl)) ?_
      refine WL.run rfl rfl rfl rfl hb5 rfl rfl (Op1.lenL Try.underlying22 (.tmp rfl)) ?_
      refine WL.run rfl rfl rfl rfl hb5 rfl rfl (Op1.gtI (.tmp rfl) (.int (inR64.2 (by omega)))) ?_
      refine WL.op rfl (Op1.pickF (.tmp rfl) hb5 (.tmp rfl)) ?_
      refine WL.nil ?_
      exact WN.meet (decide ((40 : Int) < (fresh.length : Int))) (Option.some.inj hm) ⟨Ent.q rfl, Ent.q rfl, Ent.q rfl, Ent.q rfl, Ent.q rfl, trivial⟩ trivial

theorem r04_Behind_spec (n : Nat) (l : List Str) (part : List Str) (fresh : List Str) (nth : Int) (r : (List Str) × Int) (hm : M.r04_Behind n l part fresh nth = some r) : FSpec Try.prog 17 [((tL tS).is l), ((tL tS).is part), ((tL tS).is fresh), ((tI .i64).is nth)] (Asn.tuple2 ((tL tS).is r.1) ((tI .i64).is r.2)) := by
  unfold M.r04_Behind at hm
  refine FSpec.of Try.func17 rfl rfl rfl (fun g0 => ?_)
  refine W.seq ?_
  refine W.region ?_
  refine WL.op rfl (Op1.assign (.nil (t := tS))) ?_
  refine WL.op rfl (Op1.assign (.int (inR64.2 (by omega)))) ?_
  refine WL.nil ?_
  refine WN.seq ?_
  refine W.seq ?_
  refine W.seq ?_
  refine W.region ?_
  refine WL.op rfl (Op1.move (.tmp rfl)) ?_
  refine WL.op rfl (Op1.lenL Try.underlying22 (.tmp rfl)) ?_
  refine WL.op rfl (Op1.eqI (.tmp rfl) (.int (inR64.2 (by omega)))) ?_
  refine WL.nil ?_
  refine WN.seq ?_
  refine W.cond (.tmp rfl) (fun hc1 => ?_) (fun hc1 => ?_)
  · have hp2 := of_decide_eq_true hc1
    rw [if_pos hp2] at hm
    refine W.seq ?_
    refine W.seq ?_
    refine W.region ?_
    refine WL.op rfl (Op1.move (.tmp rfl)) ?_
    refine WL.op rfl (Op1.neI (.tmp rfl) (.int (inR64.2 (by omega)))) ?_
    refine WL.nil ?_
    refine WN.seq ?_
    refine W.cond (.tmp rfl) (fun hc3 => ?_) (fun hc3 => ?_)
    · have hp4 := of_decide_eq_true hc3
      rw [if_pos hp4] at hm
      refine W.seq ?_
      refine W.region ?_
      refine WL.opR rfl (OpR.buildSlice (n := 0) (ys := []) (z := ([] : Str)) (xs := ([] : List Str)) 15 Try.underlying22 el9 ze9 trivial (by simp) (by decide) rfl) (fun k => ?_)
      refine WL.op rfl (Op1.move (.tmp rfl)) ?_
      obtain ⟨out, hv5, hm⟩ := bind_some hm
      refine WL.opR rfl (OpR.appC (key := 15) hv5 Try.underlying22 el9 (.tmp rfl) (.tmp rfl) rfl) (fun k1 => ?_)
      refine WL.op rfl (Op1.assign (.tmp rfl)) ?_
      refine WL.op rfl (Op1.assign (.int (inR64.2 (by omega)))) ?_
      refine WL.nil ?_
      refine WN.seq ?_
      have hr := Option.some.inj hm
      clear hm
      subst hr
      exact W.ret2 () rfl rfl (Opd.own (.tmp rfl)) (.tmp rfl) trivial
    · have hp4 := of_decide_eq_false hc3
      rw [if_neg hp4] at hm
      refine W.skip ?_
      refine WN.seq ?_
      refine W.seq ?_
      refine W.region ?_
      refine WL.opR rfl (OpR.buildSlice (n := 0) (ys := []) (z := ([] : Str)) (xs := ([] : List Str)) 18 Try.underlying22 el9 ze9 trivial (by simp) (by decide) rfl) (fun k2 => ?_)
      refine WL.op rfl (Op1.move (.tmp rfl)) ?_
      obtain ⟨out1, hv6, hm⟩ := bind_some hm
      refine WL.opR rfl (OpR.appC (key := 18) hv6 Try.underlying22 el9 (.tmp rfl) (.tmp rfl) rfl) (fun k3 => ?_)
      refine WL.op rfl (Op1.move (.tmp rfl)) ?_
      obtain ⟨out2, hv7, hm⟩ := bind_some hm
      refine WL.opR rfl (OpR.appC (key := 18) hv7 Try.underlying22 el9 (.tmp rfl) (.tmp rfl) rfl) (fun k4 => ?_)
      refine WL.op rfl (Op1.assign (.tmp rfl)) ?_
      refine WL.op rfl (Op1.assign (.int (inR64.2 (by omega)))) ?_
      refine WL.nil ?_
      refine WN.seq ?_
      have hr := Option.some.inj hm
      clear hm
      subst hr
      exact W.ret2 () rfl rfl (Opd.own (.tmp rfl)) (.tmp rfl) trivial
  · have hp2 := of_decide_eq_false hc1
    rw [if_neg hp2] at hm
    refine W.skip ?_
    refine WN.seq ?_
    refine W.seq ?_
    refine W.region ?_
    refine WL.op rfl (Op1.move (.tmp rfl)) ?_
    refine WL.op rfl (Op1.move (.tmp rfl)) ?_
    refine WL.opR rfl (OpR.buildSlice (n := 0) (ys := []) (z := ([] : Str)) (xs := ([] : List Str)) 25 Try.underlying22 el9 ze9 trivial (by simp) (by decide) rfl) (fun k5 => ?_)
    refine WL.op rfl (Op1.move (.tmp rfl)) ?_
    obtain ⟨out3, hv8, hm⟩ := bind_some hm
    refine WL.opR rfl (OpR.appC (key := 25) hv8 Try.underlying22 el9 (.tmp rfl) (.tmp rfl) rfl) (fun k6 => ?_)
    refine WL.op rfl (Op1.move (.tmp rfl)) ?_
    obtain ⟨out4, hv9, hm⟩ := bind_some hm
    refine WL.opR rfl (OpR.appC (key := 25) hv9 Try.underlying22 el9 (.tmp rfl) (.tmp rfl) rfl) (fun k7 => ?_)
    refine WL.op rfl (Op1.move (.tmp rfl)) ?_
    obtain ⟨replac, hv10, hm⟩ := bind_some hm
    refine WL.op rfl (Op1.call Try.call14 (r04_Replace_spec _ _ _ _ _ _ hv10) ⟨(.tmp rfl), (.tmp rfl), (Opd.own (.tmp rfl)), (.tmp rfl), trivial⟩) ?_
    refine WL.op rfl (Op1.extract0 (.tmp rfl)) ?_
    refine WL.op rfl (Op1.extract1 (.tmp rfl)) ?_
    refine WL.op rfl (Op1.assign (.tmp rfl)) ?_
    refine WL.op rfl (Op1.assign (.tmp rfl)) ?_
    refine WL.nil ?_
    refine WN.seq ?_
    have hr := Option.some.inj hm
    clear hm
    subst hr
    exact W.ret2 () rfl rfl (.tmp rfl) (.tmp rfl) trivial

theorem law04_WordseqInserts_spec (n : Nat) (l : List Str) (part : List Str) (fresh : List Str) (nth : Int) (r : Bool) (hm : M.law04_WordseqInserts n l part fresh nth = some r) : FSpec Try.prog 5 [((tL tS).is l), ((tL tS).is part), ((tL tS).is fresh), ((tI .i64).is nth)] (tB.is r) := by
  unfold M.law04_WordseqInserts at hm
  refine FSpec.of Try.func5 rfl rfl rfl (fun g0 => ?_)
  refine W.seq ?_
  refine W.region ?_
  refine WL.op rfl (Op1.assign .bool) ?_
  refine WL.nil ?_
  refine WN.seq ?_
  refine W.seq ?_
  obtain ⟨s1, hs2, hk3⟩ := bind_some hm
  clear hm
  refine W.join (fun s : Bool => s = s1) (fun s => [(22, (tB.is s)), (0, ((tL tS).is l)), (1, ((tL tS).is part)), (2, ((tL tS).is fresh)), (3, ((tI .i64).is nth))]) (fun s => []) ?_ ?_
  · rintro v hj18
    try dsimp only at hj18
    subst hj18
    have hm := hk3
    clear hk3
    try dsimp only at hm
    change W _ _ _ _ _ _ _ [(22, (tB.is v)), (0, ((tL tS).is l)), (1, ((tL tS).is part)), (2, ((tL tS).is fresh)), (3, ((tI .i64).is nth))] []
    refine W.cond (.tmp rfl) (fun hc7 => ?_) (fun hc7 => ?_)
    · have hp8 := hc7
      rw [if_pos hp8] at hm
      refine W.seq ?_
      refine W.region ?_
      obtain ⟨awake, hv9, hm⟩ := bind_some hm
      refine WL.op rfl (Op1.call Try.call10 (law04_awake_spec _ _ hv9) trivial) ?_
      refine WL.op rfl (Op1.assign (.tmp rfl)) ?_
      refine WL.nil ?_
      refine WN.seq ?_
      have hr := Option.some.inj hm
      clear hm
      subst hr
      exact W.ret1 () rfl (.tmp rfl) trivial
    · have hp8 := ne_of_false hc7
      rw [if_neg hp8] at hm
      refine W.skip ?_
      refine WN.seq ?_
      refine W.seq ?_
      refine W.region ?_
      refine WL.op rfl (Op1.move (.tmp rfl)) ?_
      refine WL.op rfl (Op1.move (.tmp rfl)) ?_
      refine WL.op rfl (Op1.move (.tmp rfl)) ?_
      refine WL.op rfl (Op1.move (.tmp rfl)) ?_
      obtain ⟨insert, hv10, hm⟩ := bind_some hm
      refine WL.op rfl (Op1.call Try.call16 (wordseq_InsertAfter_spec _ _ _ _ _ _ hv10) ⟨(.tmp rfl), (.tmp rfl), (.tmp rfl), (.tmp rfl), trivial⟩) ?_
      refine WL.op rfl (Op1.move (.tmp rfl)) ?_
      refine WL.op rfl (Op1.extract0 (.tmp rfl)) ?_
      refine WL.op rfl (Op1.extract1 (.tmp rfl)) ?_
      refine WL.op rfl (Op1.assign (.tmp rfl)) ?_
      refine WL.op rfl (Op1.assign (.tmp rfl)) ?_
      refine WL.nil ?_
      refine WN.seq ?_
      refine W.seq ?_
      refine W.region ?_
      refine WL.op rfl (Op1.move (.tmp rfl)) ?_
      refine WL.op rfl (Op1.move (.tmp rfl)) ?_
      refine WL.op rfl (Op1.move (.tmp rfl)) ?_
      refine WL.op rfl (Op1.move (.tmp rfl)) ?_
      obtain ⟨behind, hv11, hm⟩ := bind_some hm
      refine WL.op rfl (Op1.call Try.call17 (r04_Behind_spec _ _ _ _ _ _ hv11) ⟨(.tmp rfl), (.tmp rfl), (.tmp rfl), (.tmp rfl), trivial⟩) ?_
      refine WL.op rfl (Op1.move (.tmp rfl)) ?_
      refine WL.op rfl (Op1.extract0 (.tmp rfl)) ?_
      refine WL.op rfl (Op1.extract1 (.tmp rfl)) ?_
      refine WL.op rfl (Op1.assign (.tmp rfl)) ?_
      refine WL.op rfl (Op1.assign (.tmp rfl)) ?_
      refine WL.nil ?_
      refine WN.seq ?_
      refine W.seq ?_
      refine W.region ?_
      refine WL.op rfl (Op1.move (.tmp rfl)) ?_
      refine WL.op rfl (Op1.move (.tmp rfl)) ?_
      obtain ⟨same, hv12, hm⟩ := bind_some hm
      refine WL.op rfl (Op1.call Try.call15 (r04_Same_spec _ _ _ _ hv12) ⟨(.tmp rfl), (.tmp rfl), trivial⟩) ?_
      refine WL.op rfl (Op1.move (.tmp rfl)) ?_
      rcases bcases (same) with hb13 | hb13
      · have hp14 := hb13
        rw [if_pos hp14] at hm
        refine WL.run rfl rfl rfl rfl hb13 rfl rfl (Op1.move (.tmp rfl)) ?_
        refine WL.run rfl rfl rfl rfl hb13 rfl rfl (Op1.move (.tmp rfl)) ?_
        refine WL.run rfl rfl rfl rfl hb13 rfl rfl (Op1.eqI (.tmp rfl) (.tmp rfl)) ?_
        refine WL.op rfl (Op1.pickT (.tmp rfl) hb13 (.tmp rfl)) ?_
        refine WL.op rfl (Op1.move (.tmp rfl)) ?_
        rcases bcases (decide (insert.2 = behind.2)) with hb15 | hb15
        · have hp16 := of_decide_eq_true hb15
          rw [if_pos hp16] at hm
          obtain ⟨awake1, hv17, hm⟩ := bind_some hm
          refine WL.run rfl rfl rfl rfl hb15 rfl rfl (Op1.call Try.call10 (law04_awake_spec _ _ hv17) trivial) ?_
          refine WL.op rfl (Op1.pickT (.tmp rfl) hb15 (.tmp rfl)) ?_
          refine WL.op rfl (Op1.assign (.tmp rfl)) ?_
          refine WL.nil ?_
          refine WN.seq ?_
          have hr := Option.some.inj hm
          clear hm
          subst hr
          exact W.ret1 () rfl (.tmp rfl) trivial
        · have hp16 := of_decide_eq_false hb15
          rw [if_neg hp16] at hm
          refine WL.pass rfl rfl rfl rfl hb15 rfl rfl ?_
          refine WL.op rfl (Op1.pickF (.tmp rfl) hb15 .bool) ?_
          refine WL.op rfl (Op1.assign (.tmp rfl)) ?_
          refine WL.nil ?_
          refine WN.seq ?_
          have hr := Option.some.inj hm
          clear hm
          subst hr
          exact W.ret1 () rfl (.tmp rfl) trivial
      · have hp14 := ne_of_false hb13
        rw [if_neg hp14] at hm
        refine WL.pass rfl rfl rfl rfl hb13 rfl rfl ?_
        refine WL.pass rfl rfl rfl rfl hb13 rfl rfl ?_
        refine WL.pass rfl rfl rfl rfl hb13 rfl rfl ?_
        refine WL.op rfl (Op1.pickF (.tmp rfl) hb13 .bool) ?_
        refine WL.op rfl (Op1.move (.tmp rfl)) ?_
        refine WL.pass rfl rfl rfl rfl rfl rfl rfl ?_
        refine WL.op rfl (Op1.pickF (.tmp rfl) rfl .bool) ?_
        refine WL.op rfl (Op1.assign (.tmp rfl)) ?_
        refine WL.nil ?_
        refine WN.seq ?_
        have hr := Option.some.inj hm
        clear hm
        subst hr
        exact W.ret1 () rfl (.tmp rfl) trivial
  · have hm := hs2
    clear hs2
    refine W.region ?_
    refine WL.op rfl (Op1.move (.tmp rfl)) ?_
    refine WL.op rfl (Op1.move (.tmp rfl)) ?_
    refine WL.op rfl (Op1.move (.tmp rfl)) ?_
    refine WL.op rfl (Op1.buildSlice (n := 3) (ys := [(0, l), (1, part), (2, fresh)]) (z := ([] : List Str)) (xs := [l, part, fresh]) Try.underlying38 el22 ze22 ⟨rfl, (.tmp rfl), rfl, (.tmp rfl), rfl, (.tmp rfl), trivial⟩ (by simp) (by decide) rfl) ?_
    obtain ⟨long, hv4, hm⟩ := bind_some hm
    refine WL.op rfl (Op1.call Try.call9 (law04_long_spec _ _ _ hv4) ⟨(.tmp rfl), trivial⟩) ?_
    refine WL.op rfl (Op1.move (.tmp rfl)) ?_
    rcases bcases (long) with hb5 | hb5
    · have hp6 := hb5
      rw [if_pos hp6] at hm
      refine WL.pass rfl rfl rfl rfl hb5 rfl rfl ?_
      refine WL.pass rfl rfl rfl rfl hb5 rfl rfl ?_
      refine WL.pass rfl rfl rfl rfl hb5 rfl rfl ?_
      refine WL.op rfl (Op1.pickT (.tmp rfl) hb5 .bool) ?_
      refine WL.nil ?_
      exact WN.meet true (Option.some.inj hm) ⟨Ent.q rfl, Ent.q rfl, Ent.q rfl, Ent.q rfl, Ent.q rfl, trivial⟩ trivial
    · have hp6 := ne_of_false hb5
      rw [if_neg hp6] at hm
      refine WL.run rfl rfl rfl rfl hb5 rfl rfl (Op1.move (.tmp rfl)) ?_
      refine WL.run rfl rfl rfl rfl hb5 rfl rfl (Op1.lenL Try.underlying22 (.tmp rfl)) ?_
      refine WL.run rfl rfl rfl rfl hb5 rfl rfl (Op1.gtI (.tmp rfl) (.int (inR64.2 (by omega)))) ?_
      refine WL.op rfl (Op1.pickF (.tmp rfl) hb5 (.tmp rfl)) ?_
      refine WL.nil ?_
      exact WN.meet (decide ((40 : Int) < (fresh.length : Int))) (Option.some.inj hm) ⟨Ent.q rfl, Ent.q rfl, Ent.q rfl, Ent.q rfl, Ent.q rfl, trivial⟩ trivial

theorem law04_WordseqReplaceOneByOne_spec (n : Nat) (l : List Str) (old : List Str) (fresh : List Str) (r : Bool) (hm : M.law04_WordseqReplaceOneByOne n l old fresh = some r) : FSpec Try.prog 6 [((tL tS).is l), ((tL tS).is old), ((tL tS).is fresh)] (tB.is r) := by
  unfold M.law04_WordseqReplaceOneByOne at hm
  refine FSpec.of Try.func6 rfl rfl rfl (fun g0 => ?_)
  refine W.seq ?_
  refine W.region ?_
  refine WL.op rfl (Op1.assign .bool) ?_
  refine WL.nil ?_
  refine WN.seq ?_
  refine W.seq ?_
  obtain ⟨s1, hs2, hk3⟩ := bind_some hm
  clear hm
  refine W.join (fun s : Bool => s = s1) (fun s => [(29, (tB.is s)), (0, ((tL tS).is l)), (1, ((tL tS).is old)), (2, ((tL tS).is fresh))]) (fun s => []) ?_ ?_
  · rintro v hj39
    try dsimp only at hj39
    subst hj39
    have hm := hk3
    clear hk3
    try dsimp only at hm
    change W _ _ _ _ _ _ _ [(29, (tB.is v)), (0, ((tL tS).is l)), (1, ((tL tS).is old)), (2, ((tL tS).is fresh))] []
    refine W.cond (.tmp rfl) (fun hc9 => ?_) (fun hc9 => ?_)
    · have hp10 := hc9
      rw [if_pos hp10] at hm
      refine W.seq ?_
      refine W.region ?_
      obtain ⟨awake, hv11, hm⟩ := bind_some hm
      refine WL.op rfl (Op1.call Try.call10 (law04_awake_spec _ _ hv11) trivial) ?_
      refine WL.op rfl (Op1.assign (.tmp rfl)) ?_
      refine WL.nil ?_
      refine WN.seq ?_
      have hr := Option.some.inj hm
      clear hm
      subst hr
      exact W.ret1 () rfl (.tmp rfl) trivial
    · have hp10 := ne_of_false hc9
      rw [if_neg hp10] at hm
      refine W.skip ?_
      refine WN.seq ?_
      refine W.seq ?_
      refine W.region ?_
      refine WL.op rfl (Op1.move (.tmp rfl)) ?_
      refine WL.op rfl (Op1.move (.tmp rfl)) ?_
      refine WL.op rfl (Op1.move (.tmp rfl)) ?_
      obtain ⟨replac, hv12, hm⟩ := bind_some hm
      refine WL.op rfl (Op1.call Try.call13 (wordseq_Replace_spec _ _ _ _ _ _ hv12) ⟨(.tmp rfl), (.tmp rfl), (.tmp rfl), (.int (inR64.2 (by omega))), trivial⟩) ?_
      refine WL.op rfl (Op1.move (.tmp rfl)) ?_
      refine WL.op rfl (Op1.extract0 (.tmp rfl)) ?_
      refine WL.op rfl (Op1.extract1 (.tmp rfl)) ?_
      refine WL.op rfl (Op1.assign (.tmp rfl)) ?_
      refine WL.op rfl (Op1.assign (.tmp rfl)) ?_
      refine WL.nil ?_
      refine WN.seq ?_
      refine W.seq ?_
      refine W.region ?_
      refine WL.opR rfl (OpR.buildSlice (n := 0) (ys := []) (z := ([] : Str)) (xs := ([] : List Str)) 38 Try.underlying22 el9 ze9 trivial (by simp) (by decide) rfl) (fun k => ?_)
      refine WL.op rfl (Op1.move (.tmp rfl)) ?_
      obtain ⟨out, hv13, hm⟩ := bind_some hm
      refine WL.opR rfl (OpR.appC (key := 38) hv13 Try.underlying22 el9 (.tmp rfl) (.tmp rfl) rfl) (fun k1 => ?_)
      refine WL.op rfl (Op1.assign (.tmp rfl)) ?_
      refine WL.nil ?_
      refine WN.seq ?_
      refine W.seq ?_
      refine W.seq ?_
      refine W.region ?_
      refine WL.op rfl (Op1.move (.tmp rfl)) ?_
      refine WL.op rfl (Op1.assign (.tmp rfl)) ?_
      refine WL.nil ?_
      refine WN.seq ?_
      refine W.block ?_
      obtain ⟨s14, hs15, hk16⟩ := bind_some hm
      clear hm
      refine W.loop (fun m (s : (List Str) × Int) => M.law04_WordseqReplaceOneByOne_loop1 old fresh m s.1 s.2 = some s14) (fun s => [(9, ((tL tS).is s.1)), (10, ((tI .i64).is s.2)), (0, ((tL tS).is l)), (1, ((tL tS).is old)), (2, ((tL tS).is fresh)), (7, ((tL tS).is replac.1)), (8, ((tI .i64).is replac.2))]) (fun s => []) _ (out, replac.2) hs15 ⟨Ent.o rfl, Ent.q rfl, Ent.q rfl, Ent.q rfl, Ent.q rfl, Ent.q rfl, Ent.q rfl, trivial⟩ trivial ?_
      rintro n17 ⟨one, k2⟩ hm
      try dsimp only at hm
      change W _ _ _ _ _ _ _ [(9, ((tL tS).is one)), (10, ((tI .i64).is k2)), (0, ((tL tS).is l)), (1, ((tL tS).is old)), (2, ((tL tS).is fresh)), (7, ((tL tS).is replac.1)), (8, ((tI .i64).is replac.2))] []
      cases n17 with
      | zero => rw [M.law04_WordseqReplaceOneByOne_loop1.eq_1] at hm; cases hm
      | succ n17 =>
        rw [M.law04_WordseqReplaceOneByOne_loop1.eq_2] at hm
        refine W.seq ?_
        refine W.seq ?_
        refine W.region ?_
        refine WL.op rfl (Op1.move (.tmp rfl)) ?_
        refine WL.op rfl (Op1.geI (.tmp rfl) (.int (inR64.2 (by omega)))) ?_
        refine WL.nil ?_
        refine WN.seq ?_
        refine W.cond (.tmp rfl) (fun hc18 => ?_) (fun hc18 => ?_)
        · have hp19 := of_decide_eq_true hc18
          rw [if_pos hp19] at hm
          refine W.skip ?_
          refine WN.seq ?_
          refine W.seq ?_
          refine W.block ?_
          refine W.seq ?_
          refine W.region ?_
          refine WL.op rfl (Op1.move (.tmp rfl)) ?_
          refine WL.op rfl (Op1.move (.tmp rfl)) ?_
          refine WL.op rfl (Op1.move (.tmp rfl)) ?_
          refine WL.op rfl (Op1.move (.tmp rfl)) ?_
          obtain ⟨replac1, hv20, hm⟩ := bind_some hm
          refine WL.op rfl (Op1.call Try.call13 (wordseq_Replace_spec _ _ _ _ _ _ hv20) ⟨(.tmp rfl), (.tmp rfl), (.tmp rfl), (.tmp rfl), trivial⟩) ?_
          refine WL.op rfl (Op1.move (.tmp rfl)) ?_
          refine WL.op rfl (Op1.extract0 (.tmp rfl)) ?_
          refine WL.op rfl (Op1.extract1 (.tmp rfl)) ?_
          refine WL.op rfl (Op1.assign (.tmp rfl)) ?_
          refine WL.op rfl (Op1.assign (.tmp rfl)) ?_
          refine WL.nil ?_
          refine WN.seq ?_
          refine W.seq ?_
          refine W.seq ?_
          refine W.region ?_
          refine WL.op rfl (Op1.move (.tmp rfl)) ?_
          refine WL.op rfl (Op1.neI (.tmp rfl) (.int (inR64.2 (by omega)))) ?_
          refine WL.nil ?_
          refine WN.seq ?_
          refine W.cond (.tmp rfl) (fun hc21 => ?_) (fun hc21 => ?_)
          · have hp22 := of_decide_eq_true hc21
            rw [if_pos hp22] at hm
            refine W.seq ?_
            refine W.region ?_
            refine WL.op rfl (Op1.assign .bool) ?_
            refine WL.nil ?_
            refine WN.seq ?_
            have hr23 := Option.some.inj hm
            clear hm
            subst hr23
            have hm := hk16
            try dsimp only at hm
            have hr := Option.some.inj hm
            clear hm
            subst hr
            exact W.ret1 () rfl (.tmp rfl) trivial
          · have hp22 := of_decide_eq_false hc21
            rw [if_neg hp22] at hm
            refine W.skip ?_
            refine WN.seq ?_
            refine W.region ?_
            refine WL.op rfl (Op1.move (.tmp rfl)) ?_
            refine WL.op rfl (Op1.assign (.tmp rfl)) ?_
            refine WL.nil ?_
            refine WN.block ?_
            refine WN.seq ?_
            refine W.region ?_
            refine WL.op rfl (Op1.move (.tmp rfl)) ?_
            obtain ⟨v1, hv24, hm⟩ := bind_some hm
            refine WL.op rfl (Op1.subC hv24 (.tmp rfl) (.int (inR64.2 (by omega)))) ?_
            refine WL.op rfl (Op1.assign (.tmp rfl)) ?_
            refine WL.nil ?_
            exact WN.again n17 (replac1.1, v1) (Nat.lt_succ_self n17) hm ⟨Ent.q rfl, Ent.q rfl, Ent.q rfl, Ent.q rfl, Ent.q rfl, Ent.q rfl, Ent.q rfl, trivial⟩ trivial
        · have hp19 := of_decide_eq_false hc18
          rw [if_neg hp19] at hm
          refine W.exit rfl ?_
          have hr25 := Option.some.inj hm
          clear hm
          subst hr25
          have hm := hk16
          try dsimp only at hm
          refine WN.seq ?_
          refine W.seq ?_
          refine W.region ?_
          refine WL.op rfl (Op1.move (.tmp rfl)) ?_
          refine WL.op rfl (Op1.move (.tmp rfl)) ?_
          refine WL.op rfl (Op1.move (.tmp rfl)) ?_
          obtain ⟨replac2, hv26, hm⟩ := bind_some hm
          refine WL.op rfl (Op1.call Try.call13 (wordseq_Replace_spec _ _ _ _ _ _ hv26) ⟨(.tmp rfl), (.tmp rfl), (.tmp rfl), (.int (inR64.2 (by omega))), trivial⟩) ?_
          refine WL.op rfl (Op1.move (.tmp rfl)) ?_
          refine WL.op rfl (Op1.extract0 (.tmp rfl)) ?_
          refine WL.op rfl (Op1.extract1 (.tmp rfl)) ?_
          refine WL.op rfl (Op1.assign (.tmp rfl)) ?_
          refine WL.op rfl (Op1.assign (.tmp rfl)) ?_
          refine WL.nil ?_
          refine WN.seq ?_
          refine W.seq ?_
          refine W.region ?_
          refine WL.op rfl (Op1.move (.tmp rfl)) ?_
          refine WL.op rfl (Op1.move (.tmp rfl)) ?_
          refine WL.op rfl (Op1.move (.tmp rfl)) ?_
          obtain ⟨count, hv27, hm⟩ := bind_some hm
          refine WL.op rfl (Op1.call Try.call18 (wordseq_Count_spec _ _ _ _ hv27) ⟨(.tmp rfl), (.tmp rfl), trivial⟩) ?_
          refine WL.op rfl (Op1.eqI (.tmp rfl) (.tmp rfl)) ?_
          refine WL.op rfl (Op1.move (.tmp rfl)) ?_
          rcases bcases (decide (replac.2 = count)) with hb28 | hb28
          · have hp29 := of_decide_eq_true hb28
            rw [if_pos hp29] at hm
            refine WL.run rfl rfl rfl rfl hb28 rfl rfl (Op1.move (.tmp rfl)) ?_
            refine WL.run rfl rfl rfl rfl hb28 rfl rfl (Op1.move (.tmp rfl)) ?_
            refine WL.run rfl rfl rfl rfl hb28 rfl rfl (Op1.eqI (.tmp rfl) (.tmp rfl)) ?_
            refine WL.op rfl (Op1.pickT (.tmp rfl) hb28 (.tmp rfl)) ?_
            refine WL.op rfl (Op1.move (.tmp rfl)) ?_
            rcases bcases (decide (replac2.2 = replac.2)) with hb30 | hb30
            · have hp31 := of_decide_eq_true hb30
              rw [if_pos hp31] at hm
              refine WL.run rfl rfl rfl rfl hb30 rfl rfl (Op1.move (.tmp rfl)) ?_
              refine WL.run rfl rfl rfl rfl hb30 rfl rfl (Op1.move (.tmp rfl)) ?_
              obtain ⟨same, hv32, hm⟩ := bind_some hm
              refine WL.run rfl rfl rfl rfl hb30 rfl rfl (Op1.call Try.call15 (r04_Same_spec _ _ _ _ hv32) ⟨(.tmp rfl), (.tmp rfl), trivial⟩) ?_
              refine WL.op rfl (Op1.pickT (.tmp rfl) hb30 (.tmp rfl)) ?_
              refine WL.op rfl (Op1.move (.tmp rfl)) ?_
              rcases bcases (same) with hb33 | hb33
              · have hp34 := hb33
                rw [if_pos hp34] at hm
                refine WL.run rfl rfl rfl rfl hb33 rfl rfl (Op1.move (.tmp rfl)) ?_
                refine WL.run rfl rfl rfl rfl hb33 rfl rfl (Op1.move (.tmp rfl)) ?_
                obtain ⟨same1, hv35, hm⟩ := bind_some hm
                refine WL.run rfl rfl rfl rfl hb33 rfl rfl (Op1.call Try.call15 (r04_Same_spec _ _ _ _ hv35) ⟨(.tmp rfl), (.tmp rfl), trivial⟩) ?_
                refine WL.op rfl (Op1.pickT (.tmp rfl) hb33 (.tmp rfl)) ?_
                refine WL.op rfl (Op1.move (.tmp rfl)) ?_
                rcases bcases (same1) with hb36 | hb36
                · have hp37 := hb36
                  rw [if_pos hp37] at hm
                  obtain ⟨awake1, hv38, hm⟩ := bind_some hm
                  refine WL.run rfl rfl rfl rfl hb36 rfl rfl (Op1.call Try.call10 (law04_awake_spec _ _ hv38) trivial) ?_
                  refine WL.op rfl (Op1.pickT (.tmp rfl) hb36 (.tmp rfl)) ?_
                  refine WL.op rfl (Op1.assign (.tmp rfl)) ?_
                  refine WL.nil ?_
                  refine WN.seq ?_
                  have hr := Option.some.inj hm
                  clear hm
                  subst hr
                  exact W.ret1 () rfl (.tmp rfl) trivial
                · have hp37 := ne_of_false hb36
                  rw [if_neg hp37] at hm
                  refine WL.pass rfl rfl rfl rfl hb36 rfl rfl ?_
                  refine WL.op rfl (Op1.pickF (.tmp rfl) hb36 .bool) ?_
                  refine WL.op rfl (Op1.assign (.tmp rfl)) ?_
                  refine WL.nil ?_
                  refine WN.seq ?_
                  have hr := Option.some.inj hm
                  clear hm
                  subst hr
                  exact W.ret1 () rfl (.tmp rfl) trivial
              · have hp34 := ne_of_false hb33
                rw [if_neg hp34] at hm
                refine WL.pass rfl rfl rfl rfl hb33 rfl rfl ?_
                refine WL.pass rfl rfl rfl rfl hb33 rfl rfl ?_
                refine WL.pass rfl rfl rfl rfl hb33 rfl rfl ?_
                refine WL.op rfl (Op1.pickF (.tmp rfl) hb33 .bool) ?_
                refine WL.op rfl (Op1.move (.tmp rfl)) ?_
                refine WL.pass rfl rfl rfl rfl rfl rfl rfl ?_
                refine WL.op rfl (Op1.pickF (.tmp rfl) rfl .bool) ?_
                refine WL.op rfl (Op1.assign (.tmp rfl)) ?_
                refine WL.nil ?_
                refine WN.seq ?_
                have hr := Option.some.inj hm
                clear hm
                subst hr
                exact W.ret1 () rfl (.tmp rfl) trivial
            · have hp31 := of_decide_eq_false hb30
              rw [if_neg hp31] at hm
              refine WL.pass rfl rfl rfl rfl hb30 rfl rfl ?_
              refine WL.pass rfl rfl rfl rfl hb30 rfl rfl ?_
              refine WL.pass rfl rfl rfl rfl hb30 rfl rfl ?_
              refine WL.op rfl (Op1.pickF (.tmp rfl) hb30 .bool) ?_
              refine WL.op rfl (Op1.move (.tmp rfl)) ?_
              refine WL.pass rfl rfl rfl rfl rfl rfl rfl ?_
              refine WL.pass rfl rfl rfl rfl rfl rfl rfl ?_
              refine WL.pass rfl rfl rfl rfl rfl rfl rfl ?_
              refine WL.op rfl (Op1.pickF (.tmp rfl) rfl .bool) ?_
              refine WL.op rfl (Op1.move (.tmp rfl)) ?_
              refine WL.pass rfl rfl rfl rfl rfl rfl rfl ?_
              refine WL.op rfl (Op1.pickF (.tmp rfl) rfl .bool) ?_
              refine WL.op rfl (Op1.assign (.tmp rfl)) ?_
              refine WL.nil ?_
              refine WN.seq ?_
              have hr := Option.some.inj hm
              clear hm
              subst hr
              exact W.ret1 () rfl (.tmp rfl) trivial
          · have hp29 := of_decide_eq_false hb28
            rw [if_neg hp29] at hm
            refine WL.pass rfl rfl rfl rfl hb28 rfl rfl ?_
            refine WL.pass rfl rfl rfl rfl hb28 rfl rfl ?_
            refine WL.pass rfl rfl rfl rfl hb28 rfl rfl ?_
            refine WL.op rfl (Op1.pickF (.tmp rfl) hb28 .bool) ?_
            refine WL.op rfl (Op1.move (.tmp rfl)) ?_
            refine WL.pass rfl rfl rfl rfl rfl rfl rfl ?_
            refine WL.pass rfl rfl rfl rfl rfl rfl rfl ?_
            refine WL.pass rfl rfl rfl rfl rfl rfl rfl ?_
            refine WL.op rfl (Op1.pickF (.tmp rfl) rfl .bool) ?_
            refine WL.op rfl (Op1.move (.tmp rfl)) ?_
            refine WL.pass rfl rfl rfl rfl rfl rfl rfl ?_
            refine WL.pass rfl rfl rfl rfl rfl rfl rfl ?_
            refine WL.pass rfl rfl rfl rfl rfl rfl rfl ?_
            refine WL.op rfl (Op1.pickF (.tmp rfl) rfl .bool) ?_
            refine WL.op rfl (Op1.move (.tmp rfl)) ?_
            refine WL.pass rfl rfl rfl rfl rfl rfl rfl ?_
            refine WL.op rfl (Op1.pickF (.tmp rfl) rfl .bool) ?_
            refine WL.op rfl (Op1.assign (.tmp rfl)) ?_
            refine WL.nil ?_
            refine WN.seq ?_
            have hr := Option.some.inj hm
            clear hm
            subst hr
            exact W.ret1 () rfl (.tmp rfl) trivial
  · have hm := hs2
    clear hs2
    refine W.region ?_
    refine WL.op rfl (Op1.move (.tmp rfl)) ?_
    refine WL.op rfl (Op1.move (.tmp rfl)) ?_
    refine WL.op rfl (Op1.move (.tmp rfl)) ?_
    refine WL.op rfl (Op1.buildSlice (n := 3) (ys := [(0, l), (1, old), (2, fresh)]) (z := ([] : List Str)) (xs := [l, old, fresh]) Try.underlying38 el22 ze22 ⟨rfl, (.tmp rfl), rfl, (.tmp rfl), rfl, (.tmp rfl), trivial⟩ (by simp) (by decide) rfl) ?_
    obtain ⟨long, hv4, hm⟩ := bind_some hm
    refine WL.op rfl (Op1.call Try.call9 (law04_long_spec _ _ _ hv4) ⟨(.tmp rfl), trivial⟩) ?_
    refine WL.op rfl (Op1.move (.tmp rfl)) ?_
    rcases bcases (long) with hb5 | hb5
    · have hp6 := hb5
      rw [if_pos hp6] at hm
      refine WL.pass rfl rfl rfl rfl hb5 rfl rfl ?_
      refine WL.pass rfl rfl rfl rfl hb5 rfl rfl ?_
      refine WL.pass rfl rfl rfl rfl hb5 rfl rfl ?_
      refine WL.op rfl (Op1.pickT (.tmp rfl) hb5 .bool) ?_
      refine WL.op rfl (Op1.move (.tmp rfl)) ?_
      refine WL.pass rfl rfl rfl rfl rfl rfl rfl ?_
      refine WL.pass rfl rfl rfl rfl rfl rfl rfl ?_
      refine WL.pass rfl rfl rfl rfl rfl rfl rfl ?_
      refine WL.op rfl (Op1.pickT (.tmp rfl) rfl .bool) ?_
      refine WL.nil ?_
      exact WN.meet true (Option.some.inj hm) ⟨Ent.q rfl, Ent.q rfl, Ent.q rfl, Ent.q rfl, trivial⟩ trivial
    · have hp6 := ne_of_false hb5
      rw [if_neg hp6] at hm
      refine WL.run rfl rfl rfl rfl hb5 rfl rfl (Op1.move (.tmp rfl)) ?_
      refine WL.run rfl rfl rfl rfl hb5 rfl rfl (Op1.lenL Try.underlying22 (.tmp rfl)) ?_
      refine WL.run rfl rfl rfl rfl hb5 rfl rfl (Op1.gtI (.tmp rfl) (.int (inR64.2 (by omega)))) ?_
      refine WL.op rfl (Op1.pickF (.tmp rfl) hb5 (.tmp rfl)) ?_
      refine WL.op rfl (Op1.move (.tmp rfl)) ?_
      rcases bcases (decide ((60 : Int) < (l.length : Int))) with hb7 | hb7
      · have hp8 := of_decide_eq_true hb7
        rw [if_pos hp8] at hm
        refine WL.pass rfl rfl rfl rfl hb7 rfl rfl ?_
        refine WL.pass rfl rfl rfl rfl hb7 rfl rfl ?_
        refine WL.pass rfl rfl rfl rfl hb7 rfl rfl ?_
        refine WL.op rfl (Op1.pickT (.tmp rfl) hb7 .bool) ?_
        refine WL.nil ?_
        exact WN.meet true (Option.some.inj hm) ⟨Ent.q rfl, Ent.q rfl, Ent.q rfl, Ent.q rfl, trivial⟩ trivial
      · have hp8 := of_decide_eq_false hb7
        rw [if_neg hp8] at hm
        refine WL.run rfl rfl rfl rfl hb7 rfl rfl (Op1.move (.tmp rfl)) ?_
        refine WL.run rfl rfl rfl rfl hb7 rfl rfl (Op1.lenL Try.underlying22 (.tmp rfl)) ?_
        refine WL.run rfl rfl rfl rfl hb7 rfl rfl (Op1.gtI (.tmp rfl) (.int (inR64.2 (by omega)))) ?_
        refine WL.op rfl (Op1.pickF (.tmp rfl) hb7 (.tmp rfl)) ?_
        refine WL.nil ?_
        exact WN.meet (decide ((20 : Int) < (fresh.length : Int))) (Option.some.inj hm) ⟨Ent.q rfl, Ent.q rfl, Ent.q rfl, Ent.q rfl, trivial⟩ trivial

theorem r04_Word_spec (n : Nat) (s0_ : Str) (r : Bool) (hm : M.r04_Word n s0_ = some r) : FSpec Try.prog 34 [(tS.is s0_)] (tB.is r) := by
  unfold M.r04_Word at hm
  refine FSpec.of Try.func34 rfl rfl rfl (fun g0 => ?_)
  refine W.seq ?_
  refine W.region ?_
  refine WL.op rfl (Op1.assign .bool) ?_
  refine WL.nil ?_
  refine WN.seq ?_
  refine W.seq ?_
  obtain ⟨s1, hs2, hk3⟩ := bind_some hm
  clear hm
  refine W.join (fun s : Bool => s = s1) (fun s => [(11, (tB.is s)), (0, (tS.is s0_))]) (fun s => []) ?_ ?_
  · rintro v hj27
    try dsimp only at hj27
    subst hj27
    have hm := hk3
    clear hk3
    try dsimp only at hm
    change W _ _ _ _ _ _ _ [(11, (tB.is v)), (0, (tS.is s0_))] []
    refine W.cond (.tmp rfl) (fun hc6 => ?_) (fun hc6 => ?_)
    · have hp7 := hc6
      rw [if_pos hp7] at hm
      refine W.seq ?_
      refine W.region ?_
      refine WL.op rfl (Op1.assign .bool) ?_
      refine WL.nil ?_
      refine WN.seq ?_
      have hr := Option.some.inj hm
      clear hm
      subst hr
      exact W.ret1 () rfl (.tmp rfl) trivial
    · have hp7 := ne_of_false hc6
      rw [if_neg hp7] at hm
      refine W.skip ?_
      refine WN.seq ?_
      refine W.seq ?_
      refine W.seq ?_
      refine W.region ?_
      refine WL.op rfl (Op1.assign (.int (inR64.2 (by omega)))) ?_
      refine WL.nil ?_
      refine WN.seq ?_
      refine W.block ?_
      obtain ⟨s8, hs9, hk10⟩ := bind_some hm
      clear hm
      refine W.loop (fun m (s : Int) => M.r04_Word_loop1 s0_ m s = some s8) (fun s => [(3, ((tI .i64).is s)), (0, (tS.is s0_))]) (fun s => []) _ (0 : Int) hs9 ⟨Ent.q rfl, Ent.q rfl, trivial⟩ trivial ?_
      rintro n11 i hm
      try dsimp only at hm
      change W _ _ _ _ _ _ _ [(3, ((tI .i64).is i)), (0, (tS.is s0_))] []
      cases n11 with
      | zero => rw [M.r04_Word_loop1.eq_1] at hm; cases hm
      | succ n11 =>
        rw [M.r04_Word_loop1.eq_2] at hm
        refine W.seq ?_
        refine W.seq ?_
        refine W.region ?_
        refine WL.op rfl (Op1.move (.tmp rfl)) ?_
        refine WL.op rfl (Op1.move (.tmp rfl)) ?_
        refine WL.op rfl (Op1.lenS Try.underlying9 (.tmp rfl)) ?_
        refine WL.op rfl (Op1.ltI (.tmp rfl) (.tmp rfl)) ?_
        refine WL.nil ?_
        refine WN.seq ?_
        refine W.cond (.tmp rfl) (fun hc12 => ?_) (fun hc12 => ?_)
        · have hp13 := of_decide_eq_true hc12
          rw [if_pos hp13] at hm
          refine W.skip ?_
          refine WN.seq ?_
          refine W.seq ?_
          refine W.block ?_
          refine W.seq ?_
          refine W.region ?_
          refine WL.op rfl (Op1.move (.tmp rfl)) ?_
          refine WL.op rfl (Op1.move (.tmp rfl)) ?_
          obtain ⟨b, hv14, hm⟩ := bind_some hm
          refine WL.op rfl (Op1.sidx hv14 Try.underlying9 (.tmp rfl) (.tmp rfl)) ?_
          refine WL.op rfl (Op1.ltI (.tmp rfl) (.int (inR8.2 (by omega)))) ?_
          refine WL.op rfl (Op1.move (.tmp rfl)) ?_
          rcases bcases (decide ((b.toNat : Int) < (33 : Int))) with hb15 | hb15
          · have hp16 := of_decide_eq_true hb15
            rw [if_pos hp16] at hm
            refine WL.pass rfl rfl rfl rfl hb15 rfl rfl ?_
            refine WL.pass rfl rfl rfl rfl hb15 rfl rfl ?_
            refine WL.pass rfl rfl rfl rfl hb15 rfl rfl ?_
            refine WL.pass rfl rfl rfl rfl hb15 rfl rfl ?_
            refine WL.op rfl (Op1.pickT (.tmp rfl) hb15 .bool) ?_
            refine WL.nil ?_
            refine WN.seq ?_
            refine W.cond (.tmp rfl) (fun hc17 => ?_) (fun hc17 => ?_)
            · have hp18 := hc17
              rw [if_pos hp18] at hm
              refine W.seq ?_
              refine W.region ?_
              refine WL.op rfl (Op1.assign .bool) ?_
              refine WL.nil ?_
              refine WN.seq ?_
              have hr19 := Option.some.inj hm
              clear hm
              subst hr19
              have hm := hk10
              try dsimp only at hm
              have hr := Option.some.inj hm
              clear hm
              subst hr
              exact W.ret1 () rfl (.tmp rfl) trivial
            · have hp18 := ne_of_false hc17
              rw [if_neg hp18] at hm
              refine W.skip ?_
              refine WN.block ?_
              refine WN.seq ?_
              refine W.region ?_
              refine WL.op rfl (Op1.move (.tmp rfl)) ?_
              refine WL.lenS (s := 0) (.tmp rfl) fun hl20 => ?_
              refine WL.op rfl (Op1.addI1 (.tmp rfl) (.int (inR64.2 (by omega))) hp13 hl20) ?_
              refine WL.op rfl (Op1.assign (.tmp rfl)) ?_
              refine WL.nil ?_
              exact WN.again n11 (i + 1) (Nat.lt_succ_self n11) hm ⟨Ent.q rfl, Ent.q rfl, trivial⟩ trivial
          · have hp16 := of_decide_eq_false hb15
            rw [if_neg hp16] at hm
            refine WL.run rfl rfl rfl rfl hb15 rfl rfl (Op1.move (.tmp rfl)) ?_
            refine WL.run rfl rfl rfl rfl hb15 rfl rfl (Op1.move (.tmp rfl)) ?_
            obtain ⟨b1, hv21, hm⟩ := bind_some hm
            refine WL.run rfl rfl rfl rfl hb15 rfl rfl (Op1.sidx hv21 Try.underlying9 (.tmp rfl) (.tmp rfl)) ?_
            refine WL.run rfl rfl rfl rfl hb15 rfl rfl (Op1.gtI (.tmp rfl) (.int (inR8.2 (by omega)))) ?_
            refine WL.op rfl (Op1.pickF (.tmp rfl) hb15 (.tmp rfl)) ?_
            refine WL.nil ?_
            refine WN.seq ?_
            refine W.cond (.tmp rfl) (fun hc22 => ?_) (fun hc22 => ?_)
            · have hp23 := of_decide_eq_true hc22
              rw [if_pos hp23] at hm
              refine W.seq ?_
              refine W.region ?_
              refine WL.op rfl (Op1.assign .bool) ?_
              refine WL.nil ?_
              refine WN.seq ?_
              have hr24 := Option.some.inj hm
              clear hm
              subst hr24
              have hm := hk10
              try dsimp only at hm
              have hr := Option.some.inj hm
              clear hm
              subst hr
              exact W.ret1 () rfl (.tmp rfl) trivial
            · have hp23 := of_decide_eq_false hc22
              rw [if_neg hp23] at hm
              refine W.skip ?_
              refine WN.block ?_
              refine WN.seq ?_
              refine W.region ?_
              refine WL.op rfl (Op1.move (.tmp rfl)) ?_
              refine WL.lenS (s := 0) (.tmp rfl) fun hl25 => ?_
              refine WL.op rfl (Op1.addI1 (.tmp rfl) (.int (inR64.2 (by omega))) hp13 hl25) ?_
              refine WL.op rfl (Op1.assign (.tmp rfl)) ?_
              refine WL.nil ?_
              exact WN.again n11 (i + 1) (Nat.lt_succ_self n11) hm ⟨Ent.q rfl, Ent.q rfl, trivial⟩ trivial
        · have hp13 := of_decide_eq_false hc12
          rw [if_neg hp13] at hm
          refine W.exit rfl ?_
          have hr26 := Option.some.inj hm
          clear hm
          subst hr26
          have hm := hk10
          try dsimp only at hm
          refine WN.seq ?_
          refine W.seq ?_
          refine W.region ?_
          refine WL.op rfl (Op1.assign .bool) ?_
          refine WL.nil ?_
          refine WN.seq ?_
          have hr := Option.some.inj hm
          clear hm
          subst hr
          exact W.ret1 () rfl (.tmp rfl) trivial
  · have hm := hs2
    clear hs2
    refine W.region ?_
    refine WL.op rfl (Op1.move (.tmp rfl)) ?_
    refine WL.op rfl (Op1.lenS Try.underlying9 (.tmp rfl)) ?_
    refine WL.op rfl (Op1.ltI (.tmp rfl) (.int (inR64.2 (by omega)))) ?_
    refine WL.op rfl (Op1.move (.tmp rfl)) ?_
    rcases bcases (decide ((s0_.length : Int) < (1 : Int))) with hb4 | hb4
    · have hp5 := of_decide_eq_true hb4
      rw [if_pos hp5] at hm
      refine WL.pass rfl rfl rfl rfl hb4 rfl rfl ?_
      refine WL.pass rfl rfl rfl rfl hb4 rfl rfl ?_
      refine WL.pass rfl rfl rfl rfl hb4 rfl rfl ?_
      refine WL.op rfl (Op1.pickT (.tmp rfl) hb4 .bool) ?_
      refine WL.nil ?_
      exact WN.meet true (Option.some.inj hm) ⟨Ent.q rfl, Ent.q rfl, trivial⟩ trivial
    · have hp5 := of_decide_eq_false hb4
      rw [if_neg hp5] at hm
      refine WL.run rfl rfl rfl rfl hb4 rfl rfl (Op1.move (.tmp rfl)) ?_
      refine WL.run rfl rfl rfl rfl hb4 rfl rfl (Op1.lenS Try.underlying9 (.tmp rfl)) ?_
      refine WL.run rfl rfl rfl rfl hb4 rfl rfl (Op1.gtI (.tmp rfl) (.int (inR64.2 (by omega)))) ?_
      refine WL.op rfl (Op1.pickF (.tmp rfl) hb4 (.tmp rfl)) ?_
      refine WL.nil ?_
      exact WN.meet (decide ((24 : Int) < (s0_.length : Int))) (Option.some.inj hm) ⟨Ent.q rfl, Ent.q rfl, trivial⟩ trivial

theorem r04_May_spec (n : Nat) (l : List Str) (r : Bool) (hm : M.r04_May n l = some r) : FSpec Try.prog 21 [((tL tS).is l)] (tB.is r) := by
  unfold M.r04_May at hm
  refine FSpec.of Try.func21 rfl rfl rfl (fun g0 => ?_)
  refine W.seq ?_
  refine W.region ?_
  refine WL.op rfl (Op1.assign .bool) ?_
  refine WL.nil ?_
  refine WN.seq ?_
  refine W.seq ?_
  refine W.seq ?_
  refine W.region ?_
  refine WL.op rfl (Op1.move (.tmp rfl)) ?_
  refine WL.op rfl (Op1.lenL Try.underlying22 (.tmp rfl)) ?_
  refine WL.op rfl (Op1.gtI (.tmp rfl) (.int (inR64.2 (by omega)))) ?_
  refine WL.nil ?_
  refine WN.seq ?_
  refine W.cond (.tmp rfl) (fun hc1 => ?_) (fun hc1 => ?_)
  · have hp2 := of_decide_eq_true hc1
    rw [if_pos hp2] at hm
    refine W.seq ?_
    refine W.region ?_
    refine WL.op rfl (Op1.assign .bool) ?_
    refine WL.nil ?_
    refine WN.seq ?_
    have hr := Option.some.inj hm
    clear hm
    subst hr
    exact W.ret1 () rfl (.tmp rfl) trivial
  · have hp2 := of_decide_eq_false hc1
    rw [if_neg hp2] at hm
    refine W.skip ?_
    refine WN.seq ?_
    refine W.seq ?_
    refine W.seq ?_
    refine W.region ?_
    refine WL.op rfl (Op1.assign (.int (inR64.2 (by omega)))) ?_
    refine WL.nil ?_
    refine WN.seq ?_
    refine W.block ?_
    obtain ⟨s3, hs4, hk5⟩ := bind_some hm
    clear hm
    refine W.loop (fun m (s : Int) => M.r04_May_loop1 l m s = some s3) (fun s => [(3, ((tI .i64).is s)), (0, ((tL tS).is l))]) (fun s => []) _ (0 : Int) hs4 ⟨Ent.q rfl, Ent.q rfl, trivial⟩ trivial ?_
    rintro n6 i hm
    try dsimp only at hm
    change W _ _ _ _ _ _ _ [(3, ((tI .i64).is i)), (0, ((tL tS).is l))] []
    cases n6 with
    | zero => rw [M.r04_May_loop1.eq_1] at hm; cases hm
    | succ n6 =>
      rw [M.r04_May_loop1.eq_2] at hm
      refine W.seq ?_
      refine W.seq ?_
      refine W.region ?_
      refine WL.op rfl (Op1.move (.tmp rfl)) ?_
      refine WL.op rfl (Op1.move (.tmp rfl)) ?_
      refine WL.op rfl (Op1.lenL Try.underlying22 (.tmp rfl)) ?_
      refine WL.op rfl (Op1.ltI (.tmp rfl) (.tmp rfl)) ?_
      refine WL.nil ?_
      refine WN.seq ?_
      refine W.cond (.tmp rfl) (fun hc7 => ?_) (fun hc7 => ?_)
      · have hp8 := of_decide_eq_true hc7
        rw [if_pos hp8] at hm
        refine W.skip ?_
        refine WN.seq ?_
        refine W.seq ?_
        refine W.block ?_
        refine W.seq ?_
        refine W.region ?_
        refine WL.op rfl (Op1.move (.tmp rfl)) ?_
        refine WL.op rfl (Op1.move (.tmp rfl)) ?_
        obtain ⟨v, hv9, hm⟩ := bind_some hm
        refine WL.op rfl (Op1.idx hv9 Try.underlying22 Try.sizeOf9 (.tmp rfl) (.tmp rfl)) ?_
        refine WL.op rfl (Op1.load ty9 (.tmp rfl)) ?_
        obtain ⟨word, hv10, hm⟩ := bind_some hm
        refine WL.op rfl (Op1.call Try.call34 (r04_Word_spec _ _ _ hv10) ⟨(.tmp rfl), trivial⟩) ?_
        refine WL.op rfl (Op1.notB (.tmp rfl)) ?_
        refine WL.nil ?_
        refine WN.seq ?_
        refine W.cond (.tmp rfl) (fun hc11 => ?_) (fun hc11 => ?_)
        · have hp12 := not_pos hc11
          rw [if_pos hp12] at hm
          refine W.seq ?_
          refine W.region ?_
          refine WL.op rfl (Op1.assign .bool) ?_
          refine WL.nil ?_
          refine WN.seq ?_
          have hr13 := Option.some.inj hm
          clear hm
          subst hr13
          have hm := hk5
          try dsimp only at hm
          have hr := Option.some.inj hm
          clear hm
          subst hr
          exact W.ret1 () rfl (.tmp rfl) trivial
        · have hp12 := not_neg hc11
          rw [if_neg hp12] at hm
          refine W.skip ?_
          refine WN.block ?_
          refine WN.seq ?_
          refine W.region ?_
          refine WL.op rfl (Op1.move (.tmp rfl)) ?_
          refine WL.lenL (s := 0) (.tmp rfl) fun hl14 => ?_
          refine WL.op rfl (Op1.addI1 (.tmp rfl) (.int (inR64.2 (by omega))) hp8 hl14) ?_
          refine WL.op rfl (Op1.assign (.tmp rfl)) ?_
          refine WL.nil ?_
          exact WN.again n6 (i + 1) (Nat.lt_succ_self n6) hm ⟨Ent.q rfl, Ent.q rfl, trivial⟩ trivial
      · have hp8 := of_decide_eq_false hc7
        rw [if_neg hp8] at hm
        refine W.exit rfl ?_
        have hr15 := Option.some.inj hm
        clear hm
        subst hr15
        have hm := hk5
        try dsimp only at hm
        refine WN.seq ?_
        refine W.seq ?_
        refine W.region ?_
        refine WL.op rfl (Op1.assign .bool) ?_
        refine WL.nil ?_
        refine WN.seq ?_
        have hr := Option.some.inj hm
        clear hm
        subst hr
        exact W.ret1 () rfl (.tmp rfl) trivial

theorem r04_Text_spec (n : Nat) (l : List Str) (r : Str) (hm : M.r04_Text n l = some r) : FSpec Try.prog 22 [((tL tS).is l)] (tS.is r) := by
  unfold M.r04_Text at hm
  refine FSpec.of Try.func22 rfl rfl rfl (fun g0 => ?_)
  refine W.seq ?_
  refine W.region ?_
  refine WL.op rfl (Op1.assign (.str rfl (by decide))) ?_
  refine WL.nil ?_
  refine WN.seq ?_
  refine W.seq ?_
  refine W.region ?_
  refine WL.op rfl (Op1.assign (.str rfl (by decide))) ?_
  refine WL.nil ?_
  refine WN.seq ?_
  refine W.seq ?_
  refine W.seq ?_
  refine W.region ?_
  refine WL.op rfl (Op1.assign (.int (inR64.2 (by omega)))) ?_
  refine WL.nil ?_
  refine WN.seq ?_
  refine W.block ?_
  obtain ⟨s1, hs2, hk3⟩ := bind_some hm
  clear hm
  refine W.loop (fun m (s : Str × Int) => M.r04_Text_loop1 l m s.1 s.2 = some s1) (fun s => [(3, (tS.is s.1)), (4, ((tI .i64).is s.2)), (0, ((tL tS).is l))]) (fun s => []) _ (([] : Str), (0 : Int)) hs2 ⟨Ent.q rfl, Ent.q rfl, Ent.q rfl, trivial⟩ trivial ?_
  rintro n4 ⟨s0_, i⟩ hm
  try dsimp only at hm
  change W _ _ _ _ _ _ _ [(3, (tS.is s0_)), (4, ((tI .i64).is i)), (0, ((tL tS).is l))] []
  cases n4 with
  | zero => rw [M.r04_Text_loop1.eq_1] at hm; cases hm
  | succ n4 =>
    rw [M.r04_Text_loop1.eq_2] at hm
    refine W.seq ?_
    refine W.seq ?_
    refine W.region ?_
    refine WL.op rfl (Op1.move (.tmp rfl)) ?_
    refine WL.op rfl (Op1.move (.tmp rfl)) ?_
    refine WL.op rfl (Op1.lenL Try.underlying22 (.tmp rfl)) ?_
    refine WL.op rfl (Op1.ltI (.tmp rfl) (.tmp rfl)) ?_
    refine WL.nil ?_
    refine WN.seq ?_
    refine W.cond (.tmp rfl) (fun hc5 => ?_) (fun hc5 => ?_)
    · have hp6 := of_decide_eq_true hc5
      rw [if_pos hp6] at hm
      refine W.skip ?_
      refine WN.seq ?_
      refine W.seq ?_
      refine W.block ?_
      obtain ⟨s7, hs8, hk9⟩ := bind_some hm
      clear hm
      refine W.join (fun s : Str => s = s7) (fun s => [(3, (tS.is s)), (0, ((tL tS).is l)), (4, ((tI .i64).is i))]) (fun s => []) ?_ ?_
      · rintro s0_1 hj16
        try dsimp only at hj16
        subst hj16
        have hm := hk9
        clear hk9
        try dsimp only at hm
        change W _ _ _ _ _ _ _ [(3, (tS.is s0_1)), (0, ((tL tS).is l)), (4, ((tI .i64).is i))] []
        refine W.region ?_
        refine WL.op rfl (Op1.move (.tmp rfl)) ?_
        refine WL.op rfl (Op1.move (.tmp rfl)) ?_
        refine WL.op rfl (Op1.move (.tmp rfl)) ?_
        obtain ⟨v1, hv13, hm⟩ := bind_some hm
        refine WL.op rfl (Op1.idx hv13 Try.underlying22 Try.sizeOf9 (.tmp rfl) (.tmp rfl)) ?_
        refine WL.op rfl (Op1.load ty9 (.tmp rfl)) ?_
        obtain ⟨v2, hv14, hm⟩ := bind_some hm
        refine WL.op rfl (Op1.catC hv14 (.tmp rfl) (.tmp rfl)) ?_
        refine WL.op rfl (Op1.assign (.tmp rfl)) ?_
        refine WL.nil ?_
        refine WN.block ?_
        refine WN.seq ?_
        refine W.region ?_
        refine WL.op rfl (Op1.move (.tmp rfl)) ?_
        refine WL.lenL (s := 0) (.tmp rfl) fun hl15 => ?_
        refine WL.op rfl (Op1.addI1 (.tmp rfl) (.int (inR64.2 (by omega))) hp6 hl15) ?_
        refine WL.op rfl (Op1.assign (.tmp rfl)) ?_
        refine WL.nil ?_
        exact WN.again n4 (v2, i + 1) (Nat.lt_succ_self n4) hm ⟨Ent.q rfl, Ent.q rfl, Ent.q rfl, trivial⟩ trivial
      · have hm := hs8
        clear hs8
        refine W.seq ?_
        refine W.region ?_
        refine WL.op rfl (Op1.move (.tmp rfl)) ?_
        refine WL.op rfl (Op1.gtI (.tmp rfl) (.int (inR64.2 (by omega)))) ?_
        refine WL.nil ?_
        refine WN.seq ?_
        refine W.cond (.tmp rfl) (fun hc10 => ?_) (fun hc10 => ?_)
        · have hp11 := of_decide_eq_true hc10
          rw [if_pos hp11] at hm
          refine W.region ?_
          refine WL.op rfl (Op1.move (.tmp rfl)) ?_
          obtain ⟨v, hv12, hm⟩ := bind_some hm
          refine WL.op rfl (Op1.catC hv12 (.tmp rfl) (.str rfl (by decide))) ?_
          refine WL.op rfl (Op1.assign (.tmp rfl)) ?_
          refine WL.nil ?_
          exact WN.meet v (Option.some.inj hm) ⟨Ent.q rfl, Ent.q rfl, Ent.q rfl, trivial⟩ trivial
        · have hp11 := of_decide_eq_false hc10
          rw [if_neg hp11] at hm
          refine W.skip ?_
          exact WN.meet s0_ (Option.some.inj hm) ⟨Ent.q rfl, Ent.q rfl, Ent.q rfl, trivial⟩ trivial
    · have hp6 := of_decide_eq_false hc5
      rw [if_neg hp6] at hm
      refine W.exit rfl ?_
      have hr17 := Option.some.inj hm
      clear hm
      subst hr17
      have hm := hk3
      try dsimp only at hm
      refine WN.seq ?_
      refine W.seq ?_
      refine W.region ?_
      refine WL.op rfl (Op1.move (.tmp rfl)) ?_
      refine WL.op rfl (Op1.assign (.tmp rfl)) ?_
      refine WL.nil ?_
      refine WN.seq ?_
      have hr := Option.some.inj hm
      clear hm
      subst hr
      exact W.ret1 () rfl (.tmp rfl) trivial

end Go.Proofs.Ytgicfjjhchohaaa
