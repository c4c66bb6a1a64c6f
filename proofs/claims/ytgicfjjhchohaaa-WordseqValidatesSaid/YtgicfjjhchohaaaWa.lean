/-
  The code does what the models say: written by program.
-/
import Derived.Test.YtgicfjjhchohaaaBd
set_option linter.unusedVariables false
set_option linter.unusedSimpArgs false
namespace Go.Proofs.Ytgicfjjhchohaaa
open Go Go.Dec

set_option maxRecDepth 100000
set_option maxHeartbeats 4000000
theorem law04_long_spec (rows : List (List Str)) (r : Bool) (hm : M.law04_long rows = some r) : FSpec Try.prog 9 [((tL (tL tS)).is rows)] (tB.is r) := by
  unfold M.law04_long at hm
  refine FSpec.of Try.func9 rfl rfl rfl (fun g0 => ?_)
  refine W.sr ?_
  refine WL.op rfl (Op1.assign .bool) ?_
  refine WL.ns ?_
  refine W.seq ?_
  refine W.sr ?_
  refine WL.mv rfl rfl ?_
  refine WL.op rfl (Op1.lenL Try.underlying38 (.tmp rfl)) ?_
  refine WL.op rfl (Op1.move (.int (inR64.2 (by omega)))) ?_
  refine WL.ns ?_
  refine W.block ?_
  obtain ⟨s1, hs2, hk3⟩ := bind_some hm
  clear hm
  refine W.loop (fun m (s : Int × List (List Str) × List (List Str) × Unit) => m = s.2.2.1.length ∧ rows = s.2.1 ++ s.2.2.1 ∧ s.1 = (s.2.1.length : Int) ∧ M.law04_long_loop1 s.2.2.1 = some s1) (fun s => [(10, ((tI .i64).is s.1)), (8, ((tL (tL tS)).is rows)), (9, ((tI .i64).is (rows.length : Int)))]) (fun s => []) rows.length ((0 : Int), [], rows, ()) ⟨rfl, rfl, rfl, hs2⟩ ⟨Ent.q rfl, Ent.q rfl, Ent.q rfl, trivial⟩ trivial ?_
  rintro m ⟨i, pre, rest3, _⟩ ⟨hn7, hxs4, hi5, hm⟩
  try dsimp only at hn7 hxs4 hi5 hm
  change W _ _ _ _ _ _ _ [(10, ((tI .i64).is i)), (8, ((tL (tL tS)).is rows)), (9, ((tI .i64).is (rows.length : Int)))] []
  refine W.lenL (s := 8) (.tmp rfl) fun hlen6 => ?_
  refine W.sr ?_
  refine WL.op rfl (Op1.ltI (.tmp rfl) (.tmp rfl)) ?_
  refine WL.ns ?_
  refine W.seq ?_
  refine W.cond (.tmp rfl) (fun hc9 => ?_) (fun hc9 => ?_)
  · have hp10 := of_decide_eq_true hc9
    obtain ⟨e, es, hrest12⟩ := range_more hxs4 hi5 hp10
    subst hrest12
    rw [M.law04_long_loop1.eq_2] at hm
    refine W.skip ?_
    refine WN.seq ?_
    refine W.seq ?_
    refine W.block ?_
    refine W.sr ?_
    refine WL.op rfl (Op1.idxPre hxs4 hi5 Try.underlying38 Try.sizeOf22 (.tmp rfl) (.tmp rfl)) ?_
    refine WL.op rfl (Op1.load ty22 (.tmp rfl)) ?_
    refine WL.gv rfl rfl ?_
    refine WL.nr ?_
    refine WL.op rfl (Op1.assign (.int (inR64.2 (by omega)))) ?_
    refine WL.ns ?_
    refine W.seq ?_
    refine W.sr ?_
    refine WL.mv rfl rfl ?_
    refine WL.op rfl (Op1.lenL Try.underlying22 (.tmp rfl)) ?_
    refine WL.op rfl (Op1.move (.int (inR64.2 (by omega)))) ?_
    refine WL.ns ?_
    refine W.block ?_
    obtain ⟨s13, hs14, hk15⟩ := bind_some hm
    clear hm
    refine W.loop (fun m (s : Int × List Str × List Str × Int) => m = s.2.2.1.length ∧ e = s.2.1 ++ s.2.2.1 ∧ s.1 = (s.2.1.length : Int) ∧ M.law04_long_loop2 s.2.2.1 s.2.2.2 = some s13) (fun s => [(16, ((tI .i64).is s.1)), (5, ((tI .i64).is s.2.2.2)), (4, ((tL tS).is e)), (8, ((tL (tL tS)).is rows)), (9, ((tI .i64).is (rows.length : Int))), (10, ((tI .i64).is i)), (14, ((tL tS).is e)), (15, ((tI .i64).is (e.length : Int)))]) (fun s => []) e.length ((0 : Int), [], e, (0 : Int)) ⟨rfl, rfl, rfl, hs14⟩ ⟨Ent.q rfl, Ent.q rfl, Ent.q rfl, Ent.q rfl, Ent.q rfl, Ent.q rfl, Ent.q rfl, Ent.q rfl, trivial⟩ trivial ?_
    rintro m ⟨i1, pre1, rest2, n0_⟩ ⟨hn19, hxs16, hi17, hm⟩
    try dsimp only at hn19 hxs16 hi17 hm
    change W _ _ _ _ _ _ _ [(16, ((tI .i64).is i1)), (5, ((tI .i64).is n0_)), (4, ((tL tS).is e)), (8, ((tL (tL tS)).is rows)), (9, ((tI .i64).is (rows.length : Int))), (10, ((tI .i64).is i)), (14, ((tL tS).is e)), (15, ((tI .i64).is (e.length : Int)))] []
    refine W.lenL (s := 14) (.tmp rfl) fun hlen18 => ?_
    refine W.sr ?_
    refine WL.op rfl (Op1.ltI (.tmp rfl) (.tmp rfl)) ?_
    refine WL.ns ?_
    refine W.seq ?_
    refine W.cond (.tmp rfl) (fun hc21 => ?_) (fun hc21 => ?_)
    · have hp22 := of_decide_eq_true hc21
      obtain ⟨e1, es1, hrest24⟩ := range_more hxs16 hi17 hp22
      subst hrest24
      rw [M.law04_long_loop2.eq_2] at hm
      refine W.skip ?_
      refine WN.seq ?_
      refine W.seq ?_
      refine W.block ?_
      refine W.sr ?_
      refine WL.op rfl (Op1.idxPre hxs16 hi17 Try.underlying22 Try.sizeOf9 (.tmp rfl) (.tmp rfl)) ?_
      refine WL.op rfl (Op1.load ty9 (.tmp rfl)) ?_
      refine WL.gv rfl rfl ?_
      refine WL.nr1 ?_
      refine WL.mv rfl rfl ?_
      refine WL.mv rfl rfl ?_
      refine WL.op rfl (Op1.lenS Try.underlying9 (.tmp rfl)) ?_
      refine WL.op rfl (Op1.addW64 (.tmp rfl) (.tmp rfl)) ?_
      refine WL.gv rfl rfl ?_
      refine WL.nil ?_
      refine WN.block ?_
      refine WN.seq ?_
      refine W.region ?_
      refine WL.op rfl (Op1.addI (.tmp rfl) (.int (inR64.2 (by omega))) (range_inR hi17 hp22 hlen18)) ?_
      refine WL.mv rfl rfl ?_
      refine WL.nil ?_
      exact WN.again es1.length (i1 + 1, pre1 ++ [e1], es1, wrap64 (n0_ + (e1.length : Int))) (range_lt hn19) ⟨rfl, range_step hxs16, range_idx hi17, hm⟩ ⟨Ent.q rfl, Ent.q rfl, Ent.q rfl, Ent.q rfl, Ent.q rfl, Ent.q rfl, Ent.q rfl, Ent.q rfl, trivial⟩ trivial
    · have hrest24 := range_end hxs16 hi17 (of_decide_eq_false hc21)
      subst hrest24
      rw [M.law04_long_loop2.eq_1] at hm
      refine W.exit rfl ?_
      have hr25 := Option.some.inj hm
      clear hm
      subst hr25
      have hm := hk15
      try dsimp only at hm
      refine WN.seq ?_
      refine W.sr ?_
      refine WL.mv rfl rfl ?_
      refine WL.op rfl (Op1.lenL Try.underlying22 (.tmp rfl)) ?_
      refine WL.op rfl (Op1.gtI (.tmp rfl) (.int (inR64.2 (by omega)))) ?_
      refine WL.mv rfl rfl ?_
      rcases bcases (decide ((300 : Int) < (e.length : Int))) with hb26 | hb26
      · have hp27 := of_decide_eq_true hb26
        rw [if_pos hp27] at hm
        refine WL.pass rfl rfl rfl rfl hb26 rfl rfl ?_
        refine WL.pass rfl rfl rfl rfl hb26 rfl rfl ?_
        refine WL.op rfl (Op1.pickT (.tmp rfl) hb26 .bool) ?_
        refine WL.ns ?_
        refine W.condT (.tmp rfl) ?_
        refine W.sr ?_
        refine WL.op rfl (Op1.assign .bool) ?_
        refine WL.ns ?_
        have hr28 := Option.some.inj hm
        clear hm
        subst hr28
        have hm := hk3
        try dsimp only at hm
        cases hm
        exact W.ret1 () rfl (.tmp rfl) trivial
      · have hp27 := of_decide_eq_false hb26
        rw [if_neg hp27] at hm
        refine WL.run rfl rfl rfl rfl hb26 rfl rfl (Op1.move (.tmp rfl)) ?_
        refine WL.run rfl rfl rfl rfl hb26 rfl rfl (Op1.gtI (.tmp rfl) (.int (inR64.2 (by omega)))) ?_
        refine WL.op rfl (Op1.pickF (.tmp rfl) hb26 (.tmp rfl)) ?_
        refine WL.ns ?_
        refine W.cond (.tmp rfl) (fun hc29 => ?_) (fun hc29 => ?_)
        · have hp30 := of_decide_eq_true hc29
          rw [if_pos hp30] at hm
          refine W.sr ?_
          refine WL.op rfl (Op1.assign .bool) ?_
          refine WL.ns ?_
          have hr31 := Option.some.inj hm
          clear hm
          subst hr31
          have hm := hk3
          try dsimp only at hm
          cases hm
          exact W.ret1 () rfl (.tmp rfl) trivial
        · have hp30 := of_decide_eq_false hc29
          rw [if_neg hp30] at hm
          refine W.skip ?_
          refine WN.block ?_
          refine WN.seq ?_
          refine W.region ?_
          refine WL.op rfl (Op1.addI (.tmp rfl) (.int (inR64.2 (by omega))) (range_inR hi5 hp10 hlen6)) ?_
          refine WL.mv rfl rfl ?_
          refine WL.nil ?_
          exact WN.again es.length (i + 1, pre ++ [e], es, ()) (range_lt hn7) ⟨rfl, range_step hxs4, range_idx hi5, hm⟩ ⟨Ent.q rfl, Ent.q rfl, Ent.q rfl, trivial⟩ trivial
  · have hrest12 := range_end hxs4 hi5 (of_decide_eq_false hc9)
    subst hrest12
    rw [M.law04_long_loop1.eq_1] at hm
    refine W.exit rfl ?_
    have hr32 := Option.some.inj hm
    clear hm
    subst hr32
    have hm := hk3
    try dsimp only at hm
    refine WN.seq ?_
    refine W.sr ?_
    refine WL.op rfl (Op1.assign .bool) ?_
    refine WL.ns ?_
    cases hm
    exact W.ret1 () rfl (.tmp rfl) trivial

theorem slices_Equal_string_string_spec (n : Nat) (s1_ : List Str) (s2_ : List Str) (r : Bool) (hm : M.slices_Equal_string_string n s1_ s2_ = some r) : FSpec Try.prog 25 [((tL tS).is s1_), ((tL tS).is s2_)] (tB.is r) := by
  unfold M.slices_Equal_string_string at hm
  refine FSpec.of Try.func25 rfl rfl rfl (fun g0 => ?_)
  refine W.sr ?_
  refine WL.op rfl (Op1.assign .bool) ?_
  refine WL.ns ?_
  refine W.seq ?_
  refine W.sr ?_
  refine WL.mv rfl rfl ?_
  refine WL.op rfl (Op1.lenL Try.underlying22 (.tmp rfl)) ?_
  refine WL.mv rfl rfl ?_
  refine WL.op rfl (Op1.lenL Try.underlying22 (.tmp rfl)) ?_
  refine WL.op rfl (Op1.neI (.tmp rfl) (.tmp rfl)) ?_
  refine WL.ns ?_
  refine W.cond (.tmp rfl) (fun hc1 => ?_) (fun hc1 => ?_)
  · have hp2 := of_decide_eq_true hc1
    rw [if_pos hp2] at hm
    refine W.sr ?_
    refine WL.op rfl (Op1.assign .bool) ?_
    refine WL.ns ?_
    cases hm
    exact W.ret1 () rfl (.tmp rfl) trivial
  · have hp2 := of_decide_eq_false hc1
    rw [if_neg hp2] at hm
    refine W.skip ?_
    refine WN.seq ?_
    refine W.seq ?_
    refine W.sr ?_
    refine WL.mv rfl rfl ?_
    refine WL.op rfl (Op1.lenL Try.underlying22 (.tmp rfl)) ?_
    refine WL.op rfl (Op1.move (.int (inR64.2 (by omega)))) ?_
    refine WL.ns ?_
    refine W.block ?_
    obtain ⟨s3, hs4, hk5⟩ := bind_some hm
    clear hm
    refine W.loop (fun m (s : Int) => M.slices_Equal_string_string_loop1 s1_ s2_ m s = some s3) (fun s => [(13, ((tI .i64).is s)), (0, ((tL tS).is s1_)), (1, ((tL tS).is s2_)), (12, ((tI .i64).is (s1_.length : Int)))]) (fun s => []) _ (0 : Int) hs4 ⟨Ent.q rfl, Ent.q rfl, Ent.q rfl, Ent.q rfl, trivial⟩ trivial ?_
    rintro n6 v hm
    try dsimp only at hm
    change W _ _ _ _ _ _ _ [(13, ((tI .i64).is v)), (0, ((tL tS).is s1_)), (1, ((tL tS).is s2_)), (12, ((tI .i64).is (s1_.length : Int)))] []
    cases n6 with
    | zero => rw [M.slices_Equal_string_string_loop1.eq_1] at hm; cases hm
    | succ n6 =>
      rw [M.slices_Equal_string_string_loop1.eq_2] at hm
      refine W.sr ?_
      refine WL.op rfl (Op1.ltI (.tmp rfl) (.tmp rfl)) ?_
      refine WL.ns ?_
      refine W.seq ?_
      refine W.cond (.tmp rfl) (fun hc7 => ?_) (fun hc7 => ?_)
      · have hp8 := of_decide_eq_true hc7
        rw [if_pos hp8] at hm
        refine W.skip ?_
        refine WN.seq ?_
        refine W.seq ?_
        refine W.block ?_
        refine W.sr ?_
        refine WL.mv rfl rfl ?_
        refine WL.gv rfl rfl ?_
        refine WL.ns ?_
        refine W.seq ?_
        obtain ⟨v1, hv9, hm⟩ := bind_some hm
        obtain ⟨v2, hv10, hm⟩ := bind_some hm
        refine W.draw [.c ((tL tS).is s1_), .c ((tI .i64).is v), .c (tS.ptr v1), .c (tS.is v1), .c ((tL tS).is s2_), .c ((tI .i64).is v), .c (tS.ptr v2), .c (tS.is v2), .c (tB.is (v1 != v2))] [([], [0]), ([], [5]), ([0, 1], []), ([2], []), ([], [1]), ([], [5]), ([4, 5], []), ([6], []), ([3, 7], [])] Try.mixed rfl rfl rfl rfl ⟨.inr (Op1.move (.tmp rfl)), .inr (Op1.move (.tmp rfl)), .inr (Op1.idx hv9 Try.underlying22 Try.sizeOf9 (.tmp rfl) (.tmp rfl)), .inr (Op1.load ty9 (.tmp rfl)), .inr (Op1.move (.tmp rfl)), .inr (Op1.move (.tmp rfl)), .inr (Op1.idx hv10 Try.underlying22 Try.sizeOf9 (.tmp rfl) (.tmp rfl)), .inr (Op1.load ty9 (.tmp rfl)), .inr (Op1.neS (.tmp rfl) (.tmp rfl)), trivial⟩ ?_
        refine WN.seq ?_
        refine W.cond (.tmp rfl) (fun hc11 => ?_) (fun hc11 => ?_)
        · have hp12 := hc11
          rw [if_pos hp12] at hm
          refine W.sr ?_
          refine WL.op rfl (Op1.assign .bool) ?_
          refine WL.ns ?_
          have hr13 := Option.some.inj hm
          clear hm
          subst hr13
          have hm := hk5
          try dsimp only at hm
          cases hm
          exact W.ret1 () rfl (.tmp rfl) trivial
        · have hp12 := ne_of_false hc11
          rw [if_neg hp12] at hm
          refine W.skip ?_
          refine WN.block ?_
          refine WN.seq ?_
          refine W.region ?_
          refine WL.lenL (s := 0) (.tmp rfl) fun hl14 => ?_
          refine WL.op rfl (Op1.addI1 (.tmp rfl) (.int (inR64.2 (by omega))) hp8 hl14) ?_
          refine WL.mv rfl rfl ?_
          refine WL.nil ?_
          exact WN.again n6 (v + 1) (Nat.lt_succ_self n6) hm ⟨Ent.q rfl, Ent.q rfl, Ent.q rfl, Ent.q rfl, trivial⟩ trivial
      · have hp8 := of_decide_eq_false hc7
        rw [if_neg hp8] at hm
        refine W.exit rfl ?_
        have hr15 := Option.some.inj hm
        clear hm
        subst hr15
        have hm := hk5
        try dsimp only at hm
        refine WN.seq ?_
        refine W.sr ?_
        refine WL.op rfl (Op1.assign .bool) ?_
        refine WL.ns ?_
        cases hm
        exact W.ret1 () rfl (.tmp rfl) trivial

theorem wordseq_FindAll_spec (n : Nat) (l : List Str) (part : List Str) (r : (List Int)) (hm : M.wordseq_FindAll n l part = some r) : FSpecR Try.prog 11 [((tL tS).is l), ((tL tS).is part)] [] (fun k : Tok => tO (tI .i64) k r) (fun k => [(5, Own (tI .i64) 3 k r.length)]) := by
  unfold M.wordseq_FindAll at hm
  refine FSpecR.of Try.func11 rfl rfl rfl (fun g0 => ?_)
  refine W.sr ?_
  refine WL.addNil (t := (tI .i64)) (E := 3) 4 ?_
  refine WL.op rfl (Op1.assign (Opd.nilO (t := (tI .i64)))) ?_
  refine WL.nr ?_
  refine WL.addNil (t := (tI .i64)) (E := 3) 5 ?_
  refine WL.op rfl (Op1.assign (Opd.nilO (t := (tI .i64)))) ?_
  refine WL.ns ?_
  refine W.seq ?_
  refine W.sr ?_
  refine WL.mv rfl rfl ?_
  refine WL.op rfl (Op1.lenL Try.underlying22 (.tmp rfl)) ?_
  refine WL.op rfl (Op1.eqI (.tmp rfl) (.int (inR64.2 (by omega)))) ?_
  refine WL.ns ?_
  refine W.cond (.tmp rfl) (fun hc1 => ?_) (fun hc1 => ?_)
  · have hp2 := of_decide_eq_true hc1
    rw [if_pos hp2] at hm
    refine W.sr ?_
    refine WL.addNil (t := (tI .i64)) (E := 3) 4 ?_
    refine WL.op rfl (Op1.assign (Opd.nilO (t := (tI .i64)))) ?_
    refine WL.ns ?_
    cases hm
    exact W.ret1 (none : Tok) rfl (.tmp rfl) ⟨rfl, rfl, trivial⟩
  · have hp2 := of_decide_eq_false hc1
    rw [if_neg hp2] at hm
    refine W.skip ?_
    refine WN.seq ?_
    refine W.seq ?_
    refine W.sr ?_
    refine WL.op rfl (Op1.assign (.int (inR64.2 (by omega)))) ?_
    refine WL.ns ?_
    refine W.block ?_
    obtain ⟨s3, hs4, hk5⟩ := bind_some hm
    clear hm
    refine W.loop (fun m (s : ((List Int) × Int) × Tok) => M.wordseq_FindAll_loop1 l part m s.1.1 s.1.2 = some s3) (fun s => [(5, (tO (tI .i64) s.2 s.1.1)), (6, ((tI .i64).is s.1.2)), (0, ((tL tS).is l)), (1, ((tL tS).is part))]) (fun s => [(5, Own (tI .i64) 3 s.2 s.1.1.length)]) _ ((([] : List Int), (0 : Int)), (none : Tok)) hs4 ⟨Ent.q rfl, Ent.q rfl, Ent.q rfl, Ent.q rfl, trivial⟩ ⟨rfl, rfl, trivial⟩ ?_
    rintro n6 ⟨⟨out, i⟩, k⟩ hm
    try dsimp only at hm
    change W _ _ _ _ _ _ _ [(5, (tO (tI .i64) k out)), (6, ((tI .i64).is i)), (0, ((tL tS).is l)), (1, ((tL tS).is part))] [(5, Own (tI .i64) 3 k out.length)]
    cases n6 with
    | zero => rw [M.wordseq_FindAll_loop1.eq_1] at hm; cases hm
    | succ n6 =>
      rw [M.wordseq_FindAll_loop1.eq_2] at hm
      refine W.seq ?_
      refine W.sr ?_
      refine WL.mv rfl rfl ?_
      refine WL.mv rfl rfl ?_
      refine WL.op rfl (Op1.lenL Try.underlying22 (.tmp rfl)) ?_
      obtain ⟨v, hv7, hm⟩ := bind_some hm
      refine WL.op rfl (Op1.addC hv7 (.tmp rfl) (.tmp rfl)) ?_
      refine WL.mv rfl rfl ?_
      refine WL.op rfl (Op1.lenL Try.underlying22 (.tmp rfl)) ?_
      refine WL.op rfl (Op1.leI (.tmp rfl) (.tmp rfl)) ?_
      refine WL.ns ?_
      refine W.cond (.tmp rfl) (fun hc8 => ?_) (fun hc8 => ?_)
      · have hp9 := of_decide_eq_true hc8
        rw [if_pos hp9] at hm
        refine W.skip ?_
        refine WN.seq ?_
        refine W.block ?_
        refine W.seq ?_
        refine W.sr ?_
        refine WL.mv rfl rfl ?_
        refine WL.mv rfl rfl ?_
        refine WL.mv rfl rfl ?_
        refine WL.mv rfl rfl ?_
        refine WL.op rfl (Op1.lenL Try.underlying22 (.tmp rfl)) ?_
        obtain ⟨v1, hv10, hm⟩ := bind_some hm
        refine WL.op rfl (Op1.addC hv10 (.tmp rfl) (.tmp rfl)) ?_
        obtain ⟨v2, hv11, hm⟩ := bind_some hm
        refine WL.op rfl (Op1.slc hv11 Try.underlying22 Try.sizeOf9 (.tmp rfl) (.tmp rfl) (.tmp rfl)) ?_
        refine WL.mv rfl rfl ?_
        obtain ⟨string, hv12, hm⟩ := bind_some hm
        refine WL.op rfl (Op1.call Try.call25 (slices_Equal_string_string_spec _ _ _ _ hv12) ⟨(.tmp rfl), (.tmp rfl), trivial⟩) ?_
        refine WL.op rfl (Op1.notB (.tmp rfl)) ?_
        refine WL.ns ?_
        refine W.cond (.tmp rfl) (fun hc13 => ?_) (fun hc13 => ?_)
        · have hp14 := not_pos hc13
          rw [if_pos hp14] at hm
          refine W.sr ?_
          refine WL.mv rfl rfl ?_
          obtain ⟨v3, hv15, hm⟩ := bind_some hm
          refine WL.op rfl (Op1.addC hv15 (.tmp rfl) (.int (inR64.2 (by omega)))) ?_
          refine WL.gv rfl rfl ?_
          refine WL.ns ?_
          refine W.exit rfl ?_
          exact WN.again n6 ((out, v3), k) (Nat.lt_succ_self n6) hm ⟨Ent.q rfl, Ent.q rfl, Ent.q rfl, Ent.q rfl, trivial⟩ ⟨rfl, rfl, trivial⟩
        · have hp14 := not_neg hc13
          rw [if_neg hp14] at hm
          refine W.skip ?_
          refine WN.seq ?_
          refine W.sr ?_
          refine WL.mv rfl rfl ?_
          refine WL.mv rfl rfl ?_
          refine WL.op rfl (Op1.buildSlice (n := 1) (ys := [(0, i)]) (z := (0 : Int)) (xs := [i]) Try.underlying25 el3 ze3 ⟨rfl, (.tmp rfl), trivial⟩ (by simp) (by decide) rfl) ?_
          obtain ⟨out1, hv16, hm⟩ := bind_some hm
          refine WL.opR rfl (OpR.appC (key := 5) hv16 Try.underlying25 el3 (.tmp rfl) (.tmp rfl) rfl) (fun k1 => ?_)
          refine WL.gv rfl rfl ?_
          refine WL.nr1 ?_
          refine WL.mv rfl rfl ?_
          refine WL.mv rfl rfl ?_
          refine WL.op rfl (Op1.lenL Try.underlying22 (.tmp rfl)) ?_
          obtain ⟨v4, hv17, hm⟩ := bind_some hm
          refine WL.op rfl (Op1.addC hv17 (.tmp rfl) (.tmp rfl)) ?_
          refine WL.gv rfl rfl ?_
          refine WL.nil ?_
          refine WN.block ?_
          exact WN.again n6 ((out1, v4), k1) (Nat.lt_succ_self n6) hm ⟨Ent.q rfl, Ent.q rfl, Ent.q rfl, Ent.q rfl, trivial⟩ ⟨rfl, rfl, trivial⟩
      · have hp9 := of_decide_eq_false hc8
        rw [if_neg hp9] at hm
        refine W.exit rfl ?_
        have hr18 := Option.some.inj hm
        clear hm
        subst hr18
        have hm := hk5
        try dsimp only at hm
        refine WN.seq ?_
        refine W.sr ?_
        refine WL.mv rfl rfl ?_
        refine WL.gv rfl rfl ?_
        refine WL.ns ?_
        cases hm
        exact W.ret1 k rfl (.tmp rfl) ⟨rfl, rfl, trivial⟩

theorem wordseq_chosen_spec (n : Nat) (l : List Str) (part : List Str) (nth : Int) (r : (List Int)) (hm : M.wordseq_chosen n l part nth = some r) : FSpec Try.prog 27 [((tL tS).is l), ((tL tS).is part), ((tI .i64).is nth)] ((tL (tI .i64)).is r) := by
  unfold M.wordseq_chosen at hm
  refine FSpec.of Try.func27 rfl rfl rfl (fun g0 => ?_)
  refine W.sr ?_
  refine WL.op rfl (Op1.assign (.nil (t := (tI .i64)))) ?_
  refine WL.nr ?_
  refine WL.mv rfl rfl ?_
  refine WL.mv rfl rfl ?_
  obtain ⟨findal, hv1, hm⟩ := bind_some hm
  refine WL.op rfl (Op1.call Try.call11 ((wordseq_FindAll_spec _ _ _ _ hv1).read fun _ _ _ => tO_tL) ⟨(.tmp rfl), (.tmp rfl), trivial⟩) ?_
  refine WL.gv rfl rfl ?_
  refine WL.ns ?_
  refine W.seq ?_
  refine W.block ?_
  refine W.sr ?_
  refine WL.mv rfl rfl ?_
  refine WL.op rfl (Op1.eqI (.tmp rfl) (.int (inR64.2 (by omega)))) ?_
  refine WL.gv rfl rfl ?_
  refine WL.ns ?_
  refine W.cond (.tmp rfl) (fun hc2 => ?_) (fun hc2 => ?_)
  · have hp3 := of_decide_eq_true hc2
    rw [if_pos hp3] at hm
    refine W.sr ?_
    refine WL.mv rfl rfl ?_
    refine WL.gv rfl rfl ?_
    refine WL.ns ?_
    cases hm
    exact W.ret1 () rfl (.tmp rfl) trivial
  · have hp3 := of_decide_eq_false hc2
    rw [if_neg hp3] at hm
    refine W.sr ?_
    refine WL.mv rfl rfl ?_
    refine WL.op rfl (Op1.ltI (.tmp rfl) (.int (inR64.2 (by omega)))) ?_
    refine WL.mv rfl rfl ?_
    rcases bcases (decide (nth < (0 : Int))) with hb4 | hb4
    · have hp5 := of_decide_eq_true hb4
      rw [if_pos hp5] at hm
      refine WL.pass rfl rfl rfl rfl hb4 rfl rfl ?_
      refine WL.pass rfl rfl rfl rfl hb4 rfl rfl ?_
      refine WL.pass rfl rfl rfl rfl hb4 rfl rfl ?_
      refine WL.pass rfl rfl rfl rfl hb4 rfl rfl ?_
      refine WL.op rfl (Op1.pickT (.tmp rfl) hb4 .bool) ?_
      refine WL.gv rfl rfl ?_
      refine WL.ns ?_
      refine W.condT (.tmp rfl) ?_
      refine W.sr ?_
      refine WL.op rfl (Op1.assign (.nil (t := (tI .i64)))) ?_
      refine WL.ns ?_
      cases hm
      exact W.ret1 () rfl (.tmp rfl) trivial
    · have hp5 := of_decide_eq_false hb4
      rw [if_neg hp5] at hm
      refine WL.run rfl rfl rfl rfl hb4 rfl rfl (Op1.move (.tmp rfl)) ?_
      refine WL.run rfl rfl rfl rfl hb4 rfl rfl (Op1.move (.tmp rfl)) ?_
      refine WL.run rfl rfl rfl rfl hb4 rfl rfl (Op1.lenL Try.underlying25 (.tmp rfl)) ?_
      refine WL.run rfl rfl rfl rfl hb4 rfl rfl (Op1.gtI (.tmp rfl) (.tmp rfl)) ?_
      refine WL.op rfl (Op1.pickF (.tmp rfl) hb4 (.tmp rfl)) ?_
      refine WL.gv rfl rfl ?_
      refine WL.ns ?_
      refine W.cond (.tmp rfl) (fun hc6 => ?_) (fun hc6 => ?_)
      · have hp7 := of_decide_eq_true hc6
        rw [if_pos hp7] at hm
        refine W.sr ?_
        refine WL.op rfl (Op1.assign (.nil (t := (tI .i64)))) ?_
        refine WL.ns ?_
        cases hm
        exact W.ret1 () rfl (.tmp rfl) trivial
      · have hp7 := of_decide_eq_false hc6
        rw [if_neg hp7] at hm
        refine W.skip ?_
        refine WN.block ?_
        refine WN.seq ?_
        refine W.sr ?_
        refine WL.mv rfl rfl ?_
        refine WL.mv rfl rfl ?_
        obtain ⟨v, hv8, hm⟩ := bind_some hm
        refine WL.op rfl (Op1.subC hv8 (.tmp rfl) (.int (inR64.2 (by omega)))) ?_
        refine WL.mv rfl rfl ?_
        obtain ⟨v1, hv9, hm⟩ := bind_some hm
        refine WL.op rfl (Op1.slc hv9 Try.underlying25 Try.sizeOf3 (.tmp rfl) (.tmp rfl) (.tmp rfl)) ?_
        refine WL.gv rfl rfl ?_
        refine WL.ns ?_
        cases hm
        exact W.ret1 () rfl (.tmp rfl) trivial

theorem wordseq_Replace_1_spec (a : List Str) (c : List Str) (r : (List Str)) (hm : M.wordseq_Replace_1 a c = some r) : FSpec Try.prog 28 [((tL tS).is a), ((tL tS).ptr c)] ((tL tS).is r) := by
  unfold M.wordseq_Replace_1 at hm
  refine FSpec.of Try.func28 rfl rfl rfl (fun g0 => ?_)
  refine W.sr ?_
  refine WL.op rfl (Op1.assign (.nil (t := tS))) ?_
  refine WL.nr ?_
  refine WL.op rfl (Op1.load ty22 (.tmp rfl)) ?_
  refine WL.gv rfl rfl ?_
  refine WL.ns ?_
  cases hm
  exact W.ret1 () rfl (.tmp rfl) trivial

theorem wordseq_each_spec (l : List Str) (part : List Str) (places : List Int) (does : (List Str) → Option ((List Str))) (r : (List Str) × Int) (hm : M.wordseq_each l part places does = some r) : FSpec Try.prog 26 [((tL tS).is l), ((tL tS).is part), ((tL (tI .i64)).is places), (tF Try.prog (fun s : (List Str) × ((List Str)) => does s.1 = some s.2) (fun s : (List Str) × ((List Str)) => [(tL tS).is s.1]) (fun s : (List Str) × ((List Str)) => ((tL tS).is s.2)))] (Asn.tuple2 ((tL tS).is r.1) ((tI .i64).is r.2)) := by
  unfold M.wordseq_each at hm
  refine FSpec.of Try.func26 rfl rfl rfl (fun g0 => ?_)
  refine W.sr ?_
  refine WL.op rfl (Op1.assign (.nil (t := tS))) ?_
  refine WL.op rfl (Op1.assign (.int (inR64.2 (by omega)))) ?_
  refine WL.nr ?_
  refine WL.addNil (t := tS) (E := 9) 10 ?_
  refine WL.op rfl (Op1.assign (Opd.nilO (t := tS))) ?_
  refine WL.nr ?_
  refine WL.op rfl (Op1.assign (.int (inR64.2 (by omega)))) ?_
  refine WL.ns ?_
  refine W.seq ?_
  refine W.sr ?_
  refine WL.mv rfl rfl ?_
  refine WL.op rfl (Op1.lenL Try.underlying25 (.tmp rfl)) ?_
  refine WL.op rfl (Op1.move (.int (inR64.2 (by omega)))) ?_
  refine WL.ns ?_
  refine W.block ?_
  obtain ⟨s1, hs2, hk3⟩ := bind_some hm
  clear hm
  refine W.loop (fun m (s : Int × List Int × List Int × (((List Str) × Int) × Tok)) => m = s.2.2.1.length ∧ places = s.2.1 ++ s.2.2.1 ∧ s.1 = (s.2.1.length : Int) ∧ M.wordseq_each_loop1 l part does s.2.2.1 s.2.2.2.1.1 s.2.2.2.1.2 = some s1) (fun s => [(16, ((tI .i64).is s.1)), (10, (tO tS s.2.2.2.2 s.2.2.2.1.1)), (11, ((tI .i64).is s.2.2.2.1.2)), (0, ((tL tS).is l)), (1, ((tL tS).is part)), (2, ((tL (tI .i64)).is places)), (3, (tF Try.prog (fun s : (List Str) × ((List Str)) => does s.1 = some s.2) (fun s : (List Str) × ((List Str)) => [(tL tS).is s.1]) (fun s : (List Str) × ((List Str)) => ((tL tS).is s.2)))), (14, ((tL (tI .i64)).is places)), (15, ((tI .i64).is (places.length : Int)))]) (fun s => [(10, Own tS 9 s.2.2.2.2 s.2.2.2.1.1.length)]) places.length ((0 : Int), [], places, ((([] : List Str), (0 : Int)), (none : Tok))) ⟨rfl, rfl, rfl, hs2⟩ ⟨Ent.q rfl, Ent.q rfl, Ent.q rfl, Ent.q rfl, Ent.q rfl, Ent.q rfl, Ent.q rfl, Ent.q rfl, Ent.q rfl, trivial⟩ ⟨rfl, rfl, trivial⟩ ?_
  rintro m ⟨i, pre, rest1, ⟨⟨out, from0_⟩, k⟩⟩ ⟨hn7, hxs4, hi5, hm⟩
  try dsimp only at hn7 hxs4 hi5 hm
  change W _ _ _ _ _ _ _ [(16, ((tI .i64).is i)), (10, (tO tS k out)), (11, ((tI .i64).is from0_)), (0, ((tL tS).is l)), (1, ((tL tS).is part)), (2, ((tL (tI .i64)).is places)), (3, (tF Try.prog (fun s : (List Str) × ((List Str)) => does s.1 = some s.2) (fun s : (List Str) × ((List Str)) => [(tL tS).is s.1]) (fun s : (List Str) × ((List Str)) => ((tL tS).is s.2)))), (14, ((tL (tI .i64)).is places)), (15, ((tI .i64).is (places.length : Int)))] [(10, Own tS 9 k out.length)]
  refine W.lenL (s := 14) (.tmp rfl) fun hlen6 => ?_
  refine W.sr ?_
  refine WL.op rfl (Op1.ltI (.tmp rfl) (.tmp rfl)) ?_
  refine WL.ns ?_
  refine W.seq ?_
  refine W.cond (.tmp rfl) (fun hc9 => ?_) (fun hc9 => ?_)
  · have hp10 := of_decide_eq_true hc9
    obtain ⟨e, es, hrest12⟩ := range_more hxs4 hi5 hp10
    subst hrest12
    rw [M.wordseq_each_loop1.eq_2] at hm
    refine W.skip ?_
    refine WN.seq ?_
    refine W.seq ?_
    refine W.block ?_
    refine W.sr ?_
    refine WL.op rfl (Op1.idxPre hxs4 hi5 Try.underlying25 Try.sizeOf3 (.tmp rfl) (.tmp rfl)) ?_
    refine WL.op rfl (Op1.load ty3 (.tmp rfl)) ?_
    refine WL.gv rfl rfl ?_
    refine WL.nr ?_
    refine WL.mv rfl rfl ?_
    refine WL.mv rfl rfl ?_
    refine WL.mv rfl rfl ?_
    refine WL.mv rfl rfl ?_
    obtain ⟨v, hv13, hm⟩ := bind_some hm
    refine WL.op rfl (Op1.slc hv13 Try.underlying22 Try.sizeOf9 (.tmp rfl) (.tmp rfl) (.tmp rfl)) ?_
    obtain ⟨out1, hv14, hm⟩ := bind_some hm
    refine WL.opR rfl (OpR.appC (key := 10) hv14 Try.underlying22 el9 (.tmp rfl) (.tmp rfl) rfl) (fun k1 => ?_)
    refine WL.gv rfl rfl ?_
    refine WL.nr ?_
    refine WL.mv rfl rfl ?_
    refine WL.mv rfl rfl ?_
    refine WL.op rfl (Op1.lenL Try.underlying22 (.tmp rfl)) ?_
    obtain ⟨v1, hv15, hm⟩ := bind_some hm
    refine WL.op rfl (Op1.addC hv15 (.tmp rfl) (.tmp rfl)) ?_
    refine WL.gv rfl rfl ?_
    refine WL.nr1 ?_
    refine WL.mv rfl rfl ?_
    refine WL.mv rfl rfl ?_
    refine WL.mv rfl rfl ?_
    refine WL.mv rfl rfl ?_
    refine WL.mv rfl rfl ?_
    obtain ⟨v2, hv16, hm⟩ := bind_some hm
    refine WL.op rfl (Op1.slc hv16 Try.underlying22 Try.sizeOf9 (.tmp rfl) (.tmp rfl) (.tmp rfl)) ?_
    obtain ⟨v3, hv17, hm⟩ := bind_some hm
    refine WL.op rfl (Op1.callF (ok := (fun s : (List Str) × ((List Str)) => does s.1 = some s.2)) (As := (fun s : (List Str) × ((List Str)) => [(tL tS).is s.1])) (A := (fun s : (List Str) × ((List Str)) => ((tL tS).is s.2))) (s := (v2, v3)) (.tmp rfl) hv17 ⟨(.tmp rfl), trivial⟩) ?_
    obtain ⟨out2, hv18, hm⟩ := bind_some hm
    refine WL.opR rfl (OpR.appC (key := 10) hv18 Try.underlying22 el9 (.tmp rfl) (.tmp rfl) rfl) (fun k2 => ?_)
    refine WL.gv rfl rfl ?_
    refine WL.nil ?_
    refine WN.block ?_
    refine WN.seq ?_
    refine W.region ?_
    refine WL.op rfl (Op1.addI (.tmp rfl) (.int (inR64.2 (by omega))) (range_inR hi5 hp10 hlen6)) ?_
    refine WL.mv rfl rfl ?_
    refine WL.nil ?_
    exact WN.again es.length (i + 1, pre ++ [e], es, ((out2, v1), k2)) (range_lt hn7) ⟨rfl, range_step hxs4, range_idx hi5, hm⟩ ⟨Ent.q rfl, Ent.q rfl, Ent.q rfl, Ent.q rfl, Ent.q rfl, Ent.q rfl, Ent.q rfl, Ent.q rfl, Ent.q rfl, trivial⟩ ⟨rfl, rfl, trivial⟩
  · have hrest12 := range_end hxs4 hi5 (of_decide_eq_false hc9)
    subst hrest12
    rw [M.wordseq_each_loop1.eq_1] at hm
    refine W.exit rfl ?_
    have hr19 := Option.some.inj hm
    clear hm
    subst hr19
    have hm := hk3
    try dsimp only at hm
    refine WN.seq ?_
    refine W.sr ?_
    refine WL.mv rfl rfl ?_
    refine WL.mv rfl rfl ?_
    refine WL.mv rfl rfl ?_
    obtain ⟨v4, hv20, hm⟩ := bind_some hm
    refine WL.op rfl (Op1.slcLo hv20 Try.underlying22 Try.sizeOf9 (.tmp rfl) (.tmp rfl)) ?_
    obtain ⟨out3, hv21, hm⟩ := bind_some hm
    refine WL.opR rfl (OpR.appC (key := 10) hv21 Try.underlying22 el9 (.tmp rfl) (.tmp rfl) rfl) (fun k3 => ?_)
    refine WL.mv rfl rfl ?_
    refine WL.op rfl (Op1.lenL Try.underlying25 (.tmp rfl)) ?_
    refine WL.gv rfl rfl ?_
    refine WL.gv rfl rfl ?_
    refine WL.ns ?_
    cases hm
    exact W.ret2 () rfl rfl (Opd.own (.tmp rfl)) (.tmp rfl) trivial

theorem wordseq_Replace_spec (n : Nat) (l : List Str) (old : List Str) (fresh : List Str) (nth : Int) (r : (List Str) × Int) (hm : M.wordseq_Replace n l old fresh nth = some r) : FSpec Try.prog 13 [((tL tS).is l), ((tL tS).is old), ((tL tS).is fresh), ((tI .i64).is nth)] (Asn.tuple2 ((tL tS).is r.1) ((tI .i64).is r.2)) := by
  unfold M.wordseq_Replace at hm
  refine FSpec.of Try.func13 rfl rfl rfl (fun g0 => ?_)
  refine W.sr ?_
  refine WL.op rfl (Op1.box (.tmp rfl)) ?_
  refine WL.op rfl (Op1.assign (.nil (t := tS))) ?_
  refine WL.op rfl (Op1.assign (.int (inR64.2 (by omega)))) ?_
  refine WL.nr ?_
  refine WL.mv rfl rfl ?_
  refine WL.mv rfl rfl ?_
  refine WL.mv rfl rfl ?_
  refine WL.mv rfl rfl ?_
  refine WL.mv rfl rfl ?_
  obtain ⟨chosen, hv1, hm⟩ := bind_some hm
  refine WL.op rfl (Op1.call Try.call27 (wordseq_chosen_spec _ _ _ _ _ hv1) ⟨(.tmp rfl), (.tmp rfl), (.tmp rfl), trivial⟩) ?_
  refine WL.op rfl (Op1.makeFunc (ok := (fun s : (List Str) × ((List Str)) => (fun s0 => M.wordseq_Replace_1 s0 fresh) s.1 = some s.2)) (As := (fun s : (List Str) × ((List Str)) => [(tL tS).is s.1])) (A := (fun s : (List Str) × ((List Str)) => ((tL tS).is s.2))) (Cs := [((tL tS).ptr fresh)]) (cap := [.tmp 6]) Try.call28 ⟨(.tmp rfl), trivial⟩ (fun s hs => wordseq_Replace_1_spec _ _ _ hs)) ?_
  obtain ⟨each, hv2, hm⟩ := bind_some hm
  refine WL.op rfl (Op1.call Try.call26 (wordseq_each_spec _ _ _ _ _ hv2) ⟨(.tmp rfl), (.tmp rfl), (.tmp rfl), (.tmp rfl), trivial⟩) ?_
  refine WL.op rfl (Op1.extract0 (.tmp rfl)) ?_
  refine WL.op rfl (Op1.extract1 (.tmp rfl)) ?_
  refine WL.gv rfl rfl ?_
  refine WL.gv rfl rfl ?_
  refine WL.ns ?_
  cases hm
  exact W.ret2 () rfl rfl (.tmp rfl) (.tmp rfl) trivial

theorem slices_Clone_string_string_spec (l : List Str) (r : List Str) (hm : M.slices_Clone_string_string l = some r) : FSpecR Try.prog 31 [(tL tS).is l] [] (fun k : Tok => tO tS k r) (fun k => [(5, Own tS 9 k r.length)]) := by
  unfold M.slices_Clone_string_string at hm
  refine FSpecR.of Try.func31 rfl rfl rfl (fun g0 => ?_)
  refine W.seq ?_
  refine W.region ?_
  refine WL.op rfl (Op1.assign (.nil (t := tS))) ?_
  refine WL.nil ?_
  refine WN.seq ?_
  refine W.seq ?_
  refine W.seq ?_
  refine W.region ?_
  refine WL.op rfl (Op1.move (.tmp rfl)) ?_
  refine WL.opR rfl (OpR.eqNil Try.underlying22 (.tmp rfl)) (fun b => ?_)
  refine WL.nil ?_
  refine WN.seq ?_
  refine W.cond (.tmp rfl) (fun hc => ?_) (fun hc => ?_)
  · have hl := b.2 hc
    subst hl
    have hr : [] = r := by simpa [appC] using hm
    subst hr
    refine W.seq ?_
    refine W.region ?_
    refine WL.addNil (t := tS) (E := 9) 5 ?_
    refine WL.op rfl (Op1.assign (Opd.nilO (t := tS))) ?_
    refine WL.nil ?_
    refine WN.seq ?_
    exact W.ret1 (none : Tok) rfl (.tmp rfl) ⟨rfl, rfl, trivial⟩
  · refine W.skip ?_
    refine WN.seq ?_
    refine W.seq ?_
    refine W.region ?_
    refine WL.opR rfl (OpR.buildSlice (n := 0) (ys := []) (z := ([] : Str)) (xs := []) 5 Try.underlying22 el9 ze9 trivial (by simp) (by decide) rfl) (fun k5 => ?_)
    refine WL.op rfl (Op1.move (.tmp rfl)) ?_
    refine WL.opR rfl (OpR.appC (key := 5) hm Try.underlying22 el9 (.tmp rfl) (.tmp rfl) rfl) (fun k7 => ?_)
    refine WL.op rfl (Op1.assign (.tmp rfl)) ?_
    refine WL.nil ?_
    refine WN.seq ?_
    exact W.ret1 k7 rfl (.tmp rfl) ⟨rfl, rfl, trivial⟩

theorem slices_Grow_string_string_spec (n : Int) {x : Unit} (hm : growC n = some x) : FSpecR Try.prog 39 [tO tS none [], (tI .i64).is n] [] (fun k : Tok => tO tS k []) (fun k => [(22, Own tS 9 k 0)]) := by
  have hn : 0 ≤ n ∧ n ≤ 274877906944 := by unfold growC at hm; split at hm; assumption; cases hm
  clear hm
  have e1 : n - ((0 : Int) - 0) = n := by omega
  refine FSpecR.of Try.func39 rfl rfl rfl (fun g0 => ?_)
  refine W.seq ?_
  refine W.region ?_
  refine WL.op rfl (Op1.assign (.nil (t := tS))) ?_
  refine WL.nil ?_
  refine WN.seq ?_
  refine W.seq ?_
  refine W.seq ?_
  refine W.region ?_
  refine WL.op rfl (Op1.move (.tmp rfl)) ?_
  refine WL.op rfl (Op1.ltI (.tmp rfl) (.int (inR64.2 (by omega)))) ?_
  refine WL.nil ?_
  refine WN.seq ?_
  refine W.cond (.tmp rfl) (fun hc => ?_) (fun hc => ?_)
  · exact absurd (of_decide_eq_true hc) (by omega)
  · refine W.skip ?_
    refine WN.seq ?_
    refine W.seq ?_
    refine W.seq ?_
    refine W.region ?_
    refine WL.op rfl (Op1.move (.tmp rfl)) ?_
    refine WL.op rfl (Op1.move (.tmp rfl)) ?_
    refine WL.op rfl (Op1.capNil Try.underlying22 (.tmp rfl)) ?_
    refine WL.op rfl (Op1.move (.tmp rfl)) ?_
    refine WL.op rfl (Op1.lenL Try.underlying22 (Opd.own (.tmp rfl))) ?_
    refine WL.op rfl (Op1.subI (.tmp rfl) (.tmp rfl) (inR64.2 (by simp))) ?_
    refine WL.op rfl (Op1.subI (.tmp rfl) (.tmp rfl) (inR64.2 (by simp; omega))) ?_
    refine WL.op rfl (Op1.assign (.tmp rfl)) ?_
    refine WL.nil ?_
    refine WN.seq ?_
    refine W.seq ?_
    refine W.region ?_
    refine WL.op rfl (Op1.move (.tmp rfl)) ?_
    refine WL.op rfl (Op1.gtI (.tmp rfl) (.int (inR64.2 (by omega)))) ?_
    refine WL.nil ?_
    refine WN.seq ?_
    refine W.cond (.tmp rfl) (fun hc2 => ?_) (fun hc2 => ?_)
    · have hp := of_decide_eq_true hc2
      refine W.region ?_
      refine WL.op rfl (Op1.move (.tmp rfl)) ?_
      refine WL.op rfl (Op1.move (.tmp rfl)) ?_
      refine WL.op rfl (Op1.capNil Try.underlying22 (.tmp rfl)) ?_
      refine WL.op rfl (Op1.sliceNilHi (t := tS) Try.underlying22 Try.sizeOf9 (.tmp rfl) (.tmp rfl)) ?_
      refine WL.op rfl (Op1.move (.tmp rfl)) ?_
      refine WL.opR rfl (OpR.growNil (key := 22) Try.underlying22 Try.underlying3 el9 (.tmp rfl) (.tmp rfl) hp (by simp; omega)) (fun k => ?_)
      refine WL.op rfl (Op1.move (.tmp rfl)) ?_
      refine WL.op rfl (Op1.lenL Try.underlying22 (Opd.own (.tmp rfl))) ?_
      refine WL.op rfl (Op1.rawHi (t := tS) Try.underlying22 Try.sizeOf9 (.tmp rfl) (.tmp rfl)) ?_
      refine WL.op rfl (Op1.assign (.tmp rfl)) ?_
      refine WL.nil ?_
      refine WN.seq ?_
      refine W.seq ?_
      refine W.region ?_
      refine WL.op rfl (Op1.move (.tmp rfl)) ?_
      refine WL.op rfl (Op1.assign (.tmp rfl)) ?_
      refine WL.nil ?_
      refine WN.seq ?_
      exact W.ret1 k rfl (.tmp rfl) ⟨rfl, rfl, trivial⟩
    · refine W.skip ?_
      refine WN.seq ?_
      refine W.seq ?_
      refine W.region ?_
      refine WL.addNil (t := tS) (E := 9) 22 ?_
      refine WL.op rfl (Op1.move (.tmp rfl)) ?_
      refine WL.op rfl (Op1.assign (.tmp rfl)) ?_
      refine WL.nil ?_
      refine WN.seq ?_
      exact W.ret1 (none : Tok) rfl (.tmp rfl) ⟨rfl, rfl, trivial⟩

theorem slices_Concat_string_string_spec (slices : List (List Str)) (r : (List Str)) (hm : M.slices_Concat_string_string slices = some r) : FSpecR Try.prog 32 [((tL (tL tS)).is slices)] [] (fun k : Tok => tO tS k r) (fun k => [(24, Own tS 9 k r.length)]) := by
  unfold M.slices_Concat_string_string at hm
  refine FSpecR.of Try.func32 rfl rfl rfl (fun g0 => ?_)
  refine W.sr ?_
  refine WL.addNil (t := tS) (E := 9) 2 ?_
  refine WL.op rfl (Op1.assign (Opd.nilO (t := tS))) ?_
  refine WL.nr ?_
  refine WL.op rfl (Op1.assign (.int (inR64.2 (by omega)))) ?_
  refine WL.ns ?_
  refine W.seq ?_
  refine W.sr ?_
  refine WL.mv rfl rfl ?_
  refine WL.op rfl (Op1.lenL Try.underlying38 (.tmp rfl)) ?_
  refine WL.op rfl (Op1.move (.int (inR64.2 (by omega)))) ?_
  refine WL.ns ?_
  refine W.block ?_
  obtain ⟨s1, hs2, hk3⟩ := bind_some hm
  clear hm
  refine W.loop (fun m (s : Int × List (List Str) × List (List Str) × Int) => m = s.2.2.1.length ∧ slices = s.2.1 ++ s.2.2.1 ∧ s.1 = (s.2.1.length : Int) ∧ M.slices_Concat_string_string_loop1 s.2.2.1 s.2.2.2 = some s1) (fun s => [(11, ((tI .i64).is s.1)), (3, ((tI .i64).is s.2.2.2)), (0, ((tL (tL tS)).is slices)), (9, ((tL (tL tS)).is slices)), (10, ((tI .i64).is (slices.length : Int)))]) (fun s => []) slices.length ((0 : Int), [], slices, (0 : Int)) ⟨rfl, rfl, rfl, hs2⟩ ⟨Ent.q rfl, Ent.q rfl, Ent.q rfl, Ent.q rfl, Ent.q rfl, trivial⟩ trivial ?_
  rintro m ⟨i, pre, rest3, size⟩ ⟨hn7, hxs4, hi5, hm⟩
  try dsimp only at hn7 hxs4 hi5 hm
  change W _ _ _ _ _ _ _ [(11, ((tI .i64).is i)), (3, ((tI .i64).is size)), (0, ((tL (tL tS)).is slices)), (9, ((tL (tL tS)).is slices)), (10, ((tI .i64).is (slices.length : Int)))] []
  refine W.lenL (s := 9) (.tmp rfl) fun hlen6 => ?_
  refine W.sr ?_
  refine WL.op rfl (Op1.ltI (.tmp rfl) (.tmp rfl)) ?_
  refine WL.ns ?_
  refine W.seq ?_
  refine W.cond (.tmp rfl) (fun hc9 => ?_) (fun hc9 => ?_)
  · have hp10 := of_decide_eq_true hc9
    obtain ⟨e, es, hrest12⟩ := range_more hxs4 hi5 hp10
    subst hrest12
    rw [M.slices_Concat_string_string_loop1.eq_2] at hm
    refine W.skip ?_
    refine WN.seq ?_
    refine W.seq ?_
    refine W.block ?_
    refine W.sr ?_
    refine WL.op rfl (Op1.idxPre hxs4 hi5 Try.underlying38 Try.sizeOf22 (.tmp rfl) (.tmp rfl)) ?_
    refine WL.op rfl (Op1.load ty22 (.tmp rfl)) ?_
    refine WL.gv rfl rfl ?_
    refine WL.nr ?_
    refine WL.mv rfl rfl ?_
    refine WL.mv rfl rfl ?_
    refine WL.op rfl (Op1.lenL Try.underlying22 (.tmp rfl)) ?_
    obtain ⟨v, hv13, hm⟩ := bind_some hm
    refine WL.op rfl (Op1.addC hv13 (.tmp rfl) (.tmp rfl)) ?_
    refine WL.gv rfl rfl ?_
    refine WL.nr ?_
    refine WL.mv rfl rfl ?_
    refine WL.op rfl (Op1.ltI (.tmp rfl) (.int (inR64.2 (by omega)))) ?_
    refine WL.ns ?_
    refine W.cond (.tmp rfl) (fun hc14 => ?_) (fun hc14 => ?_)
    · have hp15 := of_decide_eq_true hc14
      rw [if_pos hp15] at hm
      cases hm
    · have hp15 := of_decide_eq_false hc14
      rw [if_neg hp15] at hm
      refine W.skip ?_
      refine WN.block ?_
      refine WN.seq ?_
      refine W.region ?_
      refine WL.op rfl (Op1.addI (.tmp rfl) (.int (inR64.2 (by omega))) (range_inR hi5 hp10 hlen6)) ?_
      refine WL.mv rfl rfl ?_
      refine WL.nil ?_
      exact WN.again es.length (i + 1, pre ++ [e], es, v) (range_lt hn7) ⟨rfl, range_step hxs4, range_idx hi5, hm⟩ ⟨Ent.q rfl, Ent.q rfl, Ent.q rfl, Ent.q rfl, Ent.q rfl, trivial⟩ trivial
  · have hrest12 := range_end hxs4 hi5 (of_decide_eq_false hc9)
    subst hrest12
    rw [M.slices_Concat_string_string_loop1.eq_1] at hm
    refine W.exit rfl ?_
    have hr16 := Option.some.inj hm
    clear hm
    subst hr16
    have hm := hk3
    try dsimp only at hm
    refine WN.seq ?_
    refine W.sr ?_
    refine WL.mv rfl rfl ?_
    obtain ⟨_, hv17, hm⟩ := bind_some hm
    refine WL.opR rfl (OpR.call (us := []) Try.call39 ((slices_Grow_string_string_spec _ hv17).rekey 24) rfl ⟨Opd.nilO, (.tmp rfl), trivial⟩) (fun k => ?_)
    refine WL.gv rfl rfl ?_
    refine WL.ns ?_
    refine W.seq ?_
    refine W.sr ?_
    refine WL.mv rfl rfl ?_
    refine WL.op rfl (Op1.lenL Try.underlying38 (.tmp rfl)) ?_
    refine WL.op rfl (Op1.move (.int (inR64.2 (by omega)))) ?_
    refine WL.ns ?_
    refine W.block ?_
    obtain ⟨s18, hs19, hk20⟩ := bind_some hm
    clear hm
    refine W.loop (fun m (s : Int × List (List Str) × List (List Str) × (((List Str)) × Tok)) => m = s.2.2.1.length ∧ slices = s.2.1 ++ s.2.2.1 ∧ s.1 = (s.2.1.length : Int) ∧ M.slices_Concat_string_string_loop2 s.2.2.1 s.2.2.2.1 = some s18) (fun s => [(27, ((tI .i64).is s.1)), (6, (tO tS s.2.2.2.2 s.2.2.2.1)), (25, ((tL (tL tS)).is slices)), (26, ((tI .i64).is (slices.length : Int)))]) (fun s => [(24, Own tS 9 s.2.2.2.2 s.2.2.2.1.length)]) slices.length ((0 : Int), [], slices, (([] : List Str), k)) ⟨rfl, rfl, rfl, hs19⟩ ⟨Ent.q rfl, Ent.q rfl, Ent.q rfl, Ent.q rfl, trivial⟩ ⟨rfl, rfl, trivial⟩ ?_
    rintro m ⟨i1, pre1, rest2, ⟨newslice, k1⟩⟩ ⟨hn24, hxs21, hi22, hm⟩
    try dsimp only at hn24 hxs21 hi22 hm
    change W _ _ _ _ _ _ _ [(27, ((tI .i64).is i1)), (6, (tO tS k1 newslice)), (25, ((tL (tL tS)).is slices)), (26, ((tI .i64).is (slices.length : Int)))] [(24, Own tS 9 k1 newslice.length)]
    refine W.lenL (s := 25) (.tmp rfl) fun hlen23 => ?_
    refine W.sr ?_
    refine WL.op rfl (Op1.ltI (.tmp rfl) (.tmp rfl)) ?_
    refine WL.ns ?_
    refine W.seq ?_
    refine W.cond (.tmp rfl) (fun hc26 => ?_) (fun hc26 => ?_)
    · have hp27 := of_decide_eq_true hc26
      obtain ⟨e1, es1, hrest29⟩ := range_more hxs21 hi22 hp27
      subst hrest29
      rw [M.slices_Concat_string_string_loop2.eq_2] at hm
      refine W.skip ?_
      refine WN.seq ?_
      refine W.seq ?_
      refine W.block ?_
      refine W.sr ?_
      refine WL.op rfl (Op1.idxPre hxs21 hi22 Try.underlying38 Try.sizeOf22 (.tmp rfl) (.tmp rfl)) ?_
      refine WL.op rfl (Op1.load ty22 (.tmp rfl)) ?_
      refine WL.gv rfl rfl ?_
      refine WL.nr1 ?_
      refine WL.mv rfl rfl ?_
      refine WL.mv rfl rfl ?_
      obtain ⟨out, hv30, hm⟩ := bind_some hm
      refine WL.opR rfl (OpR.appC (key := 24) hv30 Try.underlying22 el9 (.tmp rfl) (.tmp rfl) rfl) (fun k2 => ?_)
      refine WL.gv rfl rfl ?_
      refine WL.nil ?_
      refine WN.block ?_
      refine WN.seq ?_
      refine W.region ?_
      refine WL.op rfl (Op1.addI (.tmp rfl) (.int (inR64.2 (by omega))) (range_inR hi22 hp27 hlen23)) ?_
      refine WL.mv rfl rfl ?_
      refine WL.nil ?_
      exact WN.again es1.length (i1 + 1, pre1 ++ [e1], es1, (out, k2)) (range_lt hn24) ⟨rfl, range_step hxs21, range_idx hi22, hm⟩ ⟨Ent.q rfl, Ent.q rfl, Ent.q rfl, Ent.q rfl, trivial⟩ ⟨rfl, rfl, trivial⟩
    · have hrest29 := range_end hxs21 hi22 (of_decide_eq_false hc26)
      subst hrest29
      rw [M.slices_Concat_string_string_loop2.eq_1] at hm
      refine W.exit rfl ?_
      have hr31 := Option.some.inj hm
      clear hm
      subst hr31
      have hm := hk20
      try dsimp only at hm
      refine WN.seq ?_
      refine W.sr ?_
      refine WL.mv rfl rfl ?_
      refine WL.gv rfl rfl ?_
      refine WL.ns ?_
      cases hm
      exact W.ret1 k1 rfl (.tmp rfl) ⟨rfl, rfl, trivial⟩

theorem wordseq_InsertAfter_1_spec (found : List Str) (c : List Str) (r : (List Str)) (hm : M.wordseq_InsertAfter_1 found c = some r) : FSpec Try.prog 33 [((tL tS).is found), ((tL tS).ptr c)] ((tL tS).is r) := by
  unfold M.wordseq_InsertAfter_1 at hm
  refine FSpec.of Try.func33 rfl rfl rfl (fun g0 => ?_)
  refine W.sr ?_
  refine WL.op rfl (Op1.assign (.nil (t := tS))) ?_
  refine WL.nr ?_
  refine WL.mv rfl rfl ?_
  refine WL.op rfl (Op1.load ty22 (.tmp rfl)) ?_
  refine WL.op rfl (Op1.buildSlice (n := 2) (ys := [(0, found), (1, c)]) (z := ([] : List Str)) (xs := [found, c]) Try.underlying38 el22 ze22 ⟨rfl, (.tmp rfl), rfl, (.tmp rfl), trivial⟩ (by simp) (by decide) rfl) ?_
  obtain ⟨string, hv1, hm⟩ := bind_some hm
  refine WL.op rfl (Op1.call Try.call32 ((slices_Concat_string_string_spec _ _ hv1).read fun _ _ _ => tO_tL) ⟨(.tmp rfl), trivial⟩) ?_
  refine WL.gv rfl rfl ?_
  refine WL.ns ?_
  cases hm
  exact W.ret1 () rfl (.tmp rfl) trivial

theorem wordseq_InsertAfter_spec (n : Nat) (l : List Str) (part : List Str) (fresh : List Str) (nth : Int) (r : (List Str) × Int) (hm : M.wordseq_InsertAfter n l part fresh nth = some r) : FSpec Try.prog 16 [((tL tS).is l), ((tL tS).is part), ((tL tS).is fresh), ((tI .i64).is nth)] (Asn.tuple2 ((tL tS).is r.1) ((tI .i64).is r.2)) := by
  unfold M.wordseq_InsertAfter at hm
  refine FSpec.of Try.func16 rfl rfl rfl (fun g0 => ?_)
  refine W.sr ?_
  refine WL.op rfl (Op1.box (.tmp rfl)) ?_
  refine WL.op rfl (Op1.assign (.nil (t := tS))) ?_
  refine WL.op rfl (Op1.assign (.int (inR64.2 (by omega)))) ?_
  refine WL.ns ?_
  refine W.seq ?_
  refine W.sr ?_
  refine WL.mv rfl rfl ?_
  refine WL.op rfl (Op1.lenL Try.underlying22 (.tmp rfl)) ?_
  refine WL.op rfl (Op1.eqI (.tmp rfl) (.int (inR64.2 (by omega)))) ?_
  refine WL.ns ?_
  refine W.cond (.tmp rfl) (fun hc1 => ?_) (fun hc1 => ?_)
  · have hp2 := of_decide_eq_true hc1
    rw [if_pos hp2] at hm
    refine W.seq ?_
    refine W.sr ?_
    refine WL.mv rfl rfl ?_
    refine WL.op rfl (Op1.neI (.tmp rfl) (.int (inR64.2 (by omega)))) ?_
    refine WL.ns ?_
    refine W.cond (.tmp rfl) (fun hc3 => ?_) (fun hc3 => ?_)
    · have hp4 := of_decide_eq_true hc3
      rw [if_pos hp4] at hm
      refine W.sr ?_
      refine WL.mv rfl rfl ?_
      obtain ⟨string, hv5, hm⟩ := bind_some hm
      refine WL.op rfl (Op1.call Try.call31 ((slices_Clone_string_string_spec _ _ hv5).read fun _ _ _ => tO_tL) ⟨(.tmp rfl), trivial⟩) ?_
      refine WL.gv rfl rfl ?_
      refine WL.op rfl (Op1.assign (.int (inR64.2 (by omega)))) ?_
      refine WL.ns ?_
      cases hm
      exact W.ret2 () rfl rfl (.tmp rfl) (.tmp rfl) trivial
    · have hp4 := of_decide_eq_false hc3
      rw [if_neg hp4] at hm
      refine W.skip ?_
      refine WN.seq ?_
      refine W.sr ?_
      refine WL.op rfl (Op1.load ty22 (.tmp rfl)) ?_
      refine WL.mv rfl rfl ?_
      refine WL.op rfl (Op1.buildSlice (n := 2) (ys := [(0, fresh), (1, l)]) (z := ([] : List Str)) (xs := [fresh, l]) Try.underlying38 el22 ze22 ⟨rfl, (.tmp rfl), rfl, (.tmp rfl), trivial⟩ (by simp) (by decide) rfl) ?_
      obtain ⟨string1, hv6, hm⟩ := bind_some hm
      refine WL.op rfl (Op1.call Try.call32 ((slices_Concat_string_string_spec _ _ hv6).read fun _ _ _ => tO_tL) ⟨(.tmp rfl), trivial⟩) ?_
      refine WL.gv rfl rfl ?_
      refine WL.op rfl (Op1.assign (.int (inR64.2 (by omega)))) ?_
      refine WL.ns ?_
      cases hm
      exact W.ret2 () rfl rfl (.tmp rfl) (.tmp rfl) trivial
  · have hp2 := of_decide_eq_false hc1
    rw [if_neg hp2] at hm
    refine W.skip ?_
    refine WN.seq ?_
    refine W.sr ?_
    refine WL.mv rfl rfl ?_
    refine WL.mv rfl rfl ?_
    refine WL.mv rfl rfl ?_
    refine WL.mv rfl rfl ?_
    refine WL.mv rfl rfl ?_
    obtain ⟨chosen, hv7, hm⟩ := bind_some hm
    refine WL.op rfl (Op1.call Try.call27 (wordseq_chosen_spec _ _ _ _ _ hv7) ⟨(.tmp rfl), (.tmp rfl), (.tmp rfl), trivial⟩) ?_
    refine WL.op rfl (Op1.makeFunc (ok := (fun s : (List Str) × ((List Str)) => (fun s0 => M.wordseq_InsertAfter_1 s0 fresh) s.1 = some s.2)) (As := (fun s : (List Str) × ((List Str)) => [(tL tS).is s.1])) (A := (fun s : (List Str) × ((List Str)) => ((tL tS).is s.2))) (Cs := [((tL tS).ptr fresh)]) (cap := [.tmp 6]) Try.call33 ⟨(.tmp rfl), trivial⟩ (fun s hs => wordseq_InsertAfter_1_spec _ _ _ hs)) ?_
    obtain ⟨each, hv8, hm⟩ := bind_some hm
    refine WL.op rfl (Op1.call Try.call26 (wordseq_each_spec _ _ _ _ _ hv8) ⟨(.tmp rfl), (.tmp rfl), (.tmp rfl), (.tmp rfl), trivial⟩) ?_
    refine WL.op rfl (Op1.extract0 (.tmp rfl)) ?_
    refine WL.op rfl (Op1.extract1 (.tmp rfl)) ?_
    refine WL.gv rfl rfl ?_
    refine WL.gv rfl rfl ?_
    refine WL.ns ?_
    cases hm
    exact W.ret2 () rfl rfl (.tmp rfl) (.tmp rfl) trivial

theorem r04_Same_spec (n : Nat) (a : List Str) (b : List Str) (r : Bool) (hm : M.r04_Same n a b = some r) : FSpec Try.prog 15 [((tL tS).is a), ((tL tS).is b)] (tB.is r) := by
  unfold M.r04_Same at hm
  refine FSpec.of Try.func15 rfl rfl rfl (fun g0 => ?_)
  refine W.sr ?_
  refine WL.op rfl (Op1.assign .bool) ?_
  refine WL.ns ?_
  refine W.seq ?_
  refine W.sr ?_
  refine WL.mv rfl rfl ?_
  refine WL.op rfl (Op1.lenL Try.underlying22 (.tmp rfl)) ?_
  refine WL.mv rfl rfl ?_
  refine WL.op rfl (Op1.lenL Try.underlying22 (.tmp rfl)) ?_
  refine WL.op rfl (Op1.neI (.tmp rfl) (.tmp rfl)) ?_
  refine WL.ns ?_
  refine W.cond (.tmp rfl) (fun hc1 => ?_) (fun hc1 => ?_)
  · have hp2 := of_decide_eq_true hc1
    rw [if_pos hp2] at hm
    refine W.sr ?_
    refine WL.op rfl (Op1.assign .bool) ?_
    refine WL.ns ?_
    cases hm
    exact W.ret1 () rfl (.tmp rfl) trivial
  · have hp2 := of_decide_eq_false hc1
    rw [if_neg hp2] at hm
    refine W.skip ?_
    refine WN.seq ?_
    refine W.seq ?_
    refine W.sr ?_
    refine WL.op rfl (Op1.assign (.int (inR64.2 (by omega)))) ?_
    refine WL.ns ?_
    refine W.block ?_
    obtain ⟨s3, hs4, hk5⟩ := bind_some hm
    clear hm
    refine W.loop (fun m (s : Int) => M.r04_Same_loop1 a b m s = some s3) (fun s => [(5, ((tI .i64).is s)), (0, ((tL tS).is a)), (1, ((tL tS).is b))]) (fun s => []) _ (0 : Int) hs4 ⟨Ent.q rfl, Ent.q rfl, Ent.q rfl, trivial⟩ trivial ?_
    rintro n6 i hm
    try dsimp only at hm
    change W _ _ _ _ _ _ _ [(5, ((tI .i64).is i)), (0, ((tL tS).is a)), (1, ((tL tS).is b))] []
    cases n6 with
    | zero => rw [M.r04_Same_loop1.eq_1] at hm; cases hm
    | succ n6 =>
      rw [M.r04_Same_loop1.eq_2] at hm
      refine W.seq ?_
      refine W.sr ?_
      refine WL.mv rfl rfl ?_
      refine WL.mv rfl rfl ?_
      refine WL.op rfl (Op1.lenL Try.underlying22 (.tmp rfl)) ?_
      refine WL.op rfl (Op1.ltI (.tmp rfl) (.tmp rfl)) ?_
      refine WL.ns ?_
      refine W.cond (.tmp rfl) (fun hc7 => ?_) (fun hc7 => ?_)
      · have hp8 := of_decide_eq_true hc7
        rw [if_pos hp8] at hm
        refine W.skip ?_
        refine WN.seq ?_
        refine W.seq ?_
        refine W.block ?_
        refine W.seq ?_
        obtain ⟨v, hv9, hm⟩ := bind_some hm
        obtain ⟨v1, hv10, hm⟩ := bind_some hm
        refine W.draw [.c ((tL tS).is a), .c ((tI .i64).is i), .c (tS.ptr v), .c (tS.is v), .c ((tL tS).is b), .c ((tI .i64).is i), .c (tS.ptr v1), .c (tS.is v1), .c (tB.is (v != v1))] [([], [0]), ([], [5]), ([0, 1], []), ([2], []), ([], [1]), ([], [5]), ([4, 5], []), ([6], []), ([3, 7], [])] Try.mixed rfl rfl rfl rfl ⟨.inr (Op1.move (.tmp rfl)), .inr (Op1.move (.tmp rfl)), .inr (Op1.idx hv9 Try.underlying22 Try.sizeOf9 (.tmp rfl) (.tmp rfl)), .inr (Op1.load ty9 (.tmp rfl)), .inr (Op1.move (.tmp rfl)), .inr (Op1.move (.tmp rfl)), .inr (Op1.idx hv10 Try.underlying22 Try.sizeOf9 (.tmp rfl) (.tmp rfl)), .inr (Op1.load ty9 (.tmp rfl)), .inr (Op1.neS (.tmp rfl) (.tmp rfl)), trivial⟩ ?_
        refine WN.seq ?_
        refine W.cond (.tmp rfl) (fun hc11 => ?_) (fun hc11 => ?_)
        · have hp12 := hc11
          rw [if_pos hp12] at hm
          refine W.sr ?_
          refine WL.op rfl (Op1.assign .bool) ?_
          refine WL.ns ?_
          have hr13 := Option.some.inj hm
          clear hm
          subst hr13
          have hm := hk5
          try dsimp only at hm
          cases hm
          exact W.ret1 () rfl (.tmp rfl) trivial
        · have hp12 := ne_of_false hc11
          rw [if_neg hp12] at hm
          refine W.skip ?_
          refine WN.block ?_
          refine WN.seq ?_
          refine W.region ?_
          refine WL.mv rfl rfl ?_
          refine WL.lenL (s := 0) (.tmp rfl) fun hl14 => ?_
          refine WL.op rfl (Op1.addI1 (.tmp rfl) (.int (inR64.2 (by omega))) hp8 hl14) ?_
          refine WL.gv rfl rfl ?_
          refine WL.nil ?_
          exact WN.again n6 (i + 1) (Nat.lt_succ_self n6) hm ⟨Ent.q rfl, Ent.q rfl, Ent.q rfl, trivial⟩ trivial
      · have hp8 := of_decide_eq_false hc7
        rw [if_neg hp8] at hm
        refine W.exit rfl ?_
        have hr15 := Option.some.inj hm
        clear hm
        subst hr15
        have hm := hk5
        try dsimp only at hm
        refine WN.seq ?_
        refine W.sr ?_
        refine WL.op rfl (Op1.assign .bool) ?_
        refine WL.ns ?_
        cases hm
        exact W.ret1 () rfl (.tmp rfl) trivial

theorem law04_awake_spec (n : Nat)  (r : Bool) (hm : M.law04_awake n  = some r) : FSpec Try.prog 10 [] (tB.is r) := by
  unfold M.law04_awake at hm
  refine FSpec.of Try.func10 rfl rfl rfl (fun g0 => ?_)
  refine W.sr ?_
  refine WL.op rfl (Op1.assign .bool) ?_
  refine WL.nr ?_
  refine WL.op rfl (Op1.buildSlice (n := 6) (ys := [(0, ([97] : Str)), (1, ([97] : Str)), (2, ([97] : Str)), (3, ([98] : Str)), (4, ([97] : Str)), (5, ([97] : Str))]) (z := ([] : Str)) (xs := [([97] : Str), ([97] : Str), ([97] : Str), ([98] : Str), ([97] : Str), ([97] : Str)]) Try.underlying22 el9 ze9 ⟨rfl, (.str rfl (by decide)), rfl, (.str rfl (by decide)), rfl, (.str rfl (by decide)), rfl, (.str rfl (by decide)), rfl, (.str rfl (by decide)), rfl, (.str rfl (by decide)), trivial⟩ (by simp) (by decide) rfl) ?_
  refine WL.op rfl (Op1.buildSlice (n := 2) (ys := [(0, ([97] : Str)), (1, ([97] : Str))]) (z := ([] : Str)) (xs := [([97] : Str), ([97] : Str)]) Try.underlying22 el9 ze9 ⟨rfl, (.str rfl (by decide)), rfl, (.str rfl (by decide)), trivial⟩ (by simp) (by decide) rfl) ?_
  obtain ⟨findal, hv1, hm⟩ := bind_some hm
  refine WL.op rfl (Op1.call Try.call11 ((wordseq_FindAll_spec _ _ _ _ hv1).read fun _ _ _ => tO_tL) ⟨(.tmp rfl), (.tmp rfl), trivial⟩) ?_
  refine WL.gv rfl rfl ?_
  refine WL.nr ?_
  refine WL.op rfl (Op1.buildSlice (n := 3) (ys := [(0, ([97] : Str)), (1, ([98] : Str)), (2, ([98] : Str))]) (z := ([] : Str)) (xs := [([97] : Str), ([98] : Str), ([98] : Str)]) Try.underlying22 el9 ze9 ⟨rfl, (.str rfl (by decide)), rfl, (.str rfl (by decide)), rfl, (.str rfl (by decide)), trivial⟩ (by simp) (by decide) rfl) ?_
  refine WL.op rfl (Op1.buildSlice (n := 1) (ys := [(0, ([98] : Str))]) (z := ([] : Str)) (xs := [([98] : Str)]) Try.underlying22 el9 ze9 ⟨rfl, (.str rfl (by decide)), trivial⟩ (by simp) (by decide) rfl) ?_
  refine WL.op rfl (Op1.buildSlice (n := 2) (ys := [(0, ([99] : Str)), (1, ([100] : Str))]) (z := ([] : Str)) (xs := [([99] : Str), ([100] : Str)]) Try.underlying22 el9 ze9 ⟨rfl, (.str rfl (by decide)), rfl, (.str rfl (by decide)), trivial⟩ (by simp) (by decide) rfl) ?_
  obtain ⟨replac, hv2, hm⟩ := bind_some hm
  refine WL.op rfl (Op1.call Try.call13 (wordseq_Replace_spec _ _ _ _ _ _ hv2) ⟨(.tmp rfl), (.tmp rfl), (.tmp rfl), (.int (inR64.2 (by omega))), trivial⟩) ?_
  refine WL.mv rfl rfl ?_
  refine WL.op rfl (Op1.extract0 (.tmp rfl)) ?_
  refine WL.op rfl (Op1.extract1 (.tmp rfl)) ?_
  refine WL.gv rfl rfl ?_
  refine WL.gv rfl rfl ?_
  refine WL.nr ?_
  refine WL.op rfl (Op1.buildSlice (n := 1) (ys := [(0, ([97] : Str))]) (z := ([] : Str)) (xs := [([97] : Str)]) Try.underlying22 el9 ze9 ⟨rfl, (.str rfl (by decide)), trivial⟩ (by simp) (by decide) rfl) ?_
  refine WL.op rfl (Op1.buildSlice (n := 1) (ys := [(0, ([120] : Str))]) (z := ([] : Str)) (xs := [([120] : Str)]) Try.underlying22 el9 ze9 ⟨rfl, (.str rfl (by decide)), trivial⟩ (by simp) (by decide) rfl) ?_
  obtain ⟨insert, hv3, hm⟩ := bind_some hm
  refine WL.op rfl (Op1.call Try.call16 (wordseq_InsertAfter_spec _ _ _ _ _ _ hv3) ⟨(.tmp rfl), (.nil (t := tS)), (.tmp rfl), (.int (inR64.2 (by omega))), trivial⟩) ?_
  refine WL.mv rfl rfl ?_
  refine WL.op rfl (Op1.extract0 (.tmp rfl)) ?_
  refine WL.op rfl (Op1.extract1 (.tmp rfl)) ?_
  refine WL.gv rfl rfl ?_
  refine WL.gv rfl rfl ?_
  refine WL.nr ?_
  refine WL.mv rfl rfl ?_
  refine WL.op rfl (Op1.lenL Try.underlying25 (.tmp rfl)) ?_
  refine WL.op rfl (Op1.eqI (.tmp rfl) (.int (inR64.2 (by omega)))) ?_
  refine WL.mv rfl rfl ?_
  rcases bcases (decide ((findal.length : Int) = (2 : Int))) with hb4 | hb4
  · have hp5 := of_decide_eq_true hb4
    rw [if_pos hp5] at hm
    refine WL.run rfl rfl rfl rfl hb4 rfl rfl (Op1.move (.tmp rfl)) ?_
    obtain ⟨v, hv6, hm⟩ := bind_some hm
    refine WL.run rfl rfl rfl rfl hb4 rfl rfl (Op1.idx hv6 Try.underlying25 Try.sizeOf3 (.tmp rfl) (.int (inR64.2 (by omega)))) ?_
    refine WL.run rfl rfl rfl rfl hb4 rfl rfl (Op1.load ty3 (.tmp rfl)) ?_
    refine WL.run rfl rfl rfl rfl hb4 rfl rfl (Op1.eqI (.tmp rfl) (.int (inR64.2 (by omega)))) ?_
    refine WL.op rfl (Op1.pickT (.tmp rfl) hb4 (.tmp rfl)) ?_
    refine WL.mv rfl rfl ?_
    rcases bcases (decide (v = (0 : Int))) with hb7 | hb7
    · have hp8 := of_decide_eq_true hb7
      rw [if_pos hp8] at hm
      refine WL.run rfl rfl rfl rfl hb7 rfl rfl (Op1.move (.tmp rfl)) ?_
      obtain ⟨v1, hv9, hm⟩ := bind_some hm
      refine WL.run rfl rfl rfl rfl hb7 rfl rfl (Op1.idx hv9 Try.underlying25 Try.sizeOf3 (.tmp rfl) (.int (inR64.2 (by omega)))) ?_
      refine WL.run rfl rfl rfl rfl hb7 rfl rfl (Op1.load ty3 (.tmp rfl)) ?_
      refine WL.run rfl rfl rfl rfl hb7 rfl rfl (Op1.eqI (.tmp rfl) (.int (inR64.2 (by omega)))) ?_
      refine WL.op rfl (Op1.pickT (.tmp rfl) hb7 (.tmp rfl)) ?_
      refine WL.mv rfl rfl ?_
      rcases bcases (decide (v1 = (4 : Int))) with hb10 | hb10
      · have hp11 := of_decide_eq_true hb10
        rw [if_pos hp11] at hm
        refine WL.run rfl rfl rfl rfl hb10 rfl rfl (Op1.move (.tmp rfl)) ?_
        refine WL.run rfl rfl rfl rfl hb10 rfl rfl (Op1.buildSlice (n := 4) (ys := [(0, ([97] : Str)), (1, ([98] : Str)), (2, ([99] : Str)), (3, ([100] : Str))]) (z := ([] : Str)) (xs := [([97] : Str), ([98] : Str), ([99] : Str), ([100] : Str)]) Try.underlying22 el9 ze9 ⟨rfl, (.str rfl (by decide)), rfl, (.str rfl (by decide)), rfl, (.str rfl (by decide)), rfl, (.str rfl (by decide)), trivial⟩ (by simp) (by decide) rfl) ?_
        obtain ⟨same, hv12, hm⟩ := bind_some hm
        refine WL.run rfl rfl rfl rfl hb10 rfl rfl (Op1.call Try.call15 (r04_Same_spec _ _ _ _ hv12) ⟨(.tmp rfl), (.tmp rfl), trivial⟩) ?_
        refine WL.op rfl (Op1.pickT (.tmp rfl) hb10 (.tmp rfl)) ?_
        refine WL.mv rfl rfl ?_
        rcases bcases (same) with hb13 | hb13
        · have hp14 := hb13
          rw [if_pos hp14] at hm
          refine WL.run rfl rfl rfl rfl hb13 rfl rfl (Op1.move (.tmp rfl)) ?_
          refine WL.run rfl rfl rfl rfl hb13 rfl rfl (Op1.eqI (.tmp rfl) (.int (inR64.2 (by omega)))) ?_
          refine WL.op rfl (Op1.pickT (.tmp rfl) hb13 (.tmp rfl)) ?_
          refine WL.mv rfl rfl ?_
          rcases bcases (decide (replac.2 = (1 : Int))) with hb15 | hb15
          · have hp16 := of_decide_eq_true hb15
            rw [if_pos hp16] at hm
            refine WL.run rfl rfl rfl rfl hb15 rfl rfl (Op1.move (.tmp rfl)) ?_
            refine WL.run rfl rfl rfl rfl hb15 rfl rfl (Op1.buildSlice (n := 2) (ys := [(0, ([120] : Str)), (1, ([97] : Str))]) (z := ([] : Str)) (xs := [([120] : Str), ([97] : Str)]) Try.underlying22 el9 ze9 ⟨rfl, (.str rfl (by decide)), rfl, (.str rfl (by decide)), trivial⟩ (by simp) (by decide) rfl) ?_
            obtain ⟨same1, hv17, hm⟩ := bind_some hm
            refine WL.run rfl rfl rfl rfl hb15 rfl rfl (Op1.call Try.call15 (r04_Same_spec _ _ _ _ hv17) ⟨(.tmp rfl), (.tmp rfl), trivial⟩) ?_
            refine WL.op rfl (Op1.pickT (.tmp rfl) hb15 (.tmp rfl)) ?_
            refine WL.mv rfl rfl ?_
            rcases bcases (same1) with hb18 | hb18
            · have hp19 := hb18
              rw [if_pos hp19] at hm
              refine WL.run rfl rfl rfl rfl hb18 rfl rfl (Op1.move (.tmp rfl)) ?_
              refine WL.run rfl rfl rfl rfl hb18 rfl rfl (Op1.eqI (.tmp rfl) (.int (inR64.2 (by omega)))) ?_
              refine WL.op rfl (Op1.pickT (.tmp rfl) hb18 (.tmp rfl)) ?_
              refine WL.gv rfl rfl ?_
              refine WL.ns ?_
              cases hm
              exact W.ret1 () rfl (.tmp rfl) trivial
            · have hp19 := ne_of_false hb18
              rw [if_neg hp19] at hm
              refine WL.pass rfl rfl rfl rfl hb18 rfl rfl ?_
              refine WL.pass rfl rfl rfl rfl hb18 rfl rfl ?_
              refine WL.op rfl (Op1.pickF (.tmp rfl) hb18 .bool) ?_
              refine WL.gv rfl rfl ?_
              refine WL.ns ?_
              cases hm
              exact W.ret1 () rfl (.tmp rfl) trivial
          · have hp16 := of_decide_eq_false hb15
            rw [if_neg hp16] at hm
            refine WL.pass rfl rfl rfl rfl hb15 rfl rfl ?_
            refine WL.pass rfl rfl rfl rfl hb15 rfl rfl ?_
            refine WL.pass rfl rfl rfl rfl hb15 rfl rfl ?_
            refine WL.op rfl (Op1.pickF (.tmp rfl) hb15 .bool) ?_
            refine WL.mv rfl rfl ?_
            refine WL.pass rfl rfl rfl rfl rfl rfl rfl ?_
            refine WL.pass rfl rfl rfl rfl rfl rfl rfl ?_
            refine WL.op rfl (Op1.pickF (.tmp rfl) rfl .bool) ?_
            refine WL.gv rfl rfl ?_
            refine WL.ns ?_
            cases hm
            exact W.ret1 () rfl (.tmp rfl) trivial
        · have hp14 := ne_of_false hb13
          rw [if_neg hp14] at hm
          refine WL.pass rfl rfl rfl rfl hb13 rfl rfl ?_
          refine WL.pass rfl rfl rfl rfl hb13 rfl rfl ?_
          refine WL.op rfl (Op1.pickF (.tmp rfl) hb13 .bool) ?_
          refine WL.mv rfl rfl ?_
          refine WL.pass rfl rfl rfl rfl rfl rfl rfl ?_
          refine WL.pass rfl rfl rfl rfl rfl rfl rfl ?_
          refine WL.pass rfl rfl rfl rfl rfl rfl rfl ?_
          refine WL.op rfl (Op1.pickF (.tmp rfl) rfl .bool) ?_
          refine WL.mv rfl rfl ?_
          refine WL.pass rfl rfl rfl rfl rfl rfl rfl ?_
          refine WL.pass rfl rfl rfl rfl rfl rfl rfl ?_
          refine WL.op rfl (Op1.pickF (.tmp rfl) rfl .bool) ?_
          refine WL.gv rfl rfl ?_
          refine WL.ns ?_
          cases hm
          exact W.ret1 () rfl (.tmp rfl) trivial
      · have hp11 := of_decide_eq_false hb10
        rw [if_neg hp11] at hm
        refine WL.pass rfl rfl rfl rfl hb10 rfl rfl ?_
        refine WL.pass rfl rfl rfl rfl hb10 rfl rfl ?_
        refine WL.pass rfl rfl rfl rfl hb10 rfl rfl ?_
        refine WL.op rfl (Op1.pickF (.tmp rfl) hb10 .bool) ?_
        refine WL.mv rfl rfl ?_
        refine WL.pass rfl rfl rfl rfl rfl rfl rfl ?_
        refine WL.pass rfl rfl rfl rfl rfl rfl rfl ?_
        refine WL.op rfl (Op1.pickF (.tmp rfl) rfl .bool) ?_
        refine WL.mv rfl rfl ?_
        refine WL.pass rfl rfl rfl rfl rfl rfl rfl ?_
        refine WL.pass rfl rfl rfl rfl rfl rfl rfl ?_
        refine WL.pass rfl rfl rfl rfl rfl rfl rfl ?_
        refine WL.op rfl (Op1.pickF (.tmp rfl) rfl .bool) ?_
        refine WL.mv rfl rfl ?_
        refine WL.pass rfl rfl rfl rfl rfl rfl rfl ?_
        refine WL.pass rfl rfl rfl rfl rfl rfl rfl ?_
        refine WL.op rfl (Op1.pickF (.tmp rfl) rfl .bool) ?_
        refine WL.gv rfl rfl ?_
        refine WL.ns ?_
        cases hm
        exact W.ret1 () rfl (.tmp rfl) trivial
    · have hp8 := of_decide_eq_false hb7
      rw [if_neg hp8] at hm
      refine WL.pass rfl rfl rfl rfl hb7 rfl rfl ?_
      refine WL.pass rfl rfl rfl rfl hb7 rfl rfl ?_
      refine WL.pass rfl rfl rfl rfl hb7 rfl rfl ?_
      refine WL.pass rfl rfl rfl rfl hb7 rfl rfl ?_
      refine WL.op rfl (Op1.pickF (.tmp rfl) hb7 .bool) ?_
      refine WL.mv rfl rfl ?_
      refine WL.pass rfl rfl rfl rfl rfl rfl rfl ?_
      refine WL.pass rfl rfl rfl rfl rfl rfl rfl ?_
      refine WL.pass rfl rfl rfl rfl rfl rfl rfl ?_
      refine WL.op rfl (Op1.pickF (.tmp rfl) rfl .bool) ?_
      refine WL.mv rfl rfl ?_
      refine WL.pass rfl rfl rfl rfl rfl rfl rfl ?_
      refine WL.pass rfl rfl rfl rfl rfl rfl rfl ?_
      refine WL.op rfl (Op1.pickF (.tmp rfl) rfl .bool) ?_
      refine WL.mv rfl rfl ?_
      refine WL.pass rfl rfl rfl rfl rfl rfl rfl ?_
      refine WL.pass rfl rfl rfl rfl rfl rfl rfl ?_
      refine WL.pass rfl rfl rfl rfl rfl rfl rfl ?_
      refine WL.op rfl (Op1.pickF (.tmp rfl) rfl .bool) ?_
      refine WL.mv rfl rfl ?_
      refine WL.pass rfl rfl rfl rfl rfl rfl rfl ?_
      refine WL.pass rfl rfl rfl rfl rfl rfl rfl ?_
      refine WL.op rfl (Op1.pickF (.tmp rfl) rfl .bool) ?_
      refine WL.gv rfl rfl ?_
      refine WL.ns ?_
      cases hm
      exact W.ret1 () rfl (.tmp rfl) trivial
  · have hp5 := of_decide_eq_false hb4
    rw [if_neg hp5] at hm
    refine WL.pass rfl rfl rfl rfl hb4 rfl rfl ?_
    refine WL.pass rfl rfl rfl rfl hb4 rfl rfl ?_
    refine WL.pass rfl rfl rfl rfl hb4 rfl rfl ?_
    refine WL.pass rfl rfl rfl rfl hb4 rfl rfl ?_
    refine WL.op rfl (Op1.pickF (.tmp rfl) hb4 .bool) ?_
    refine WL.mv rfl rfl ?_
    refine WL.pass rfl rfl rfl rfl rfl rfl rfl ?_
    refine WL.pass rfl rfl rfl rfl rfl rfl rfl ?_
    refine WL.pass rfl rfl rfl rfl rfl rfl rfl ?_
    refine WL.pass rfl rfl rfl rfl rfl rfl rfl ?_
    refine WL.op rfl (Op1.pickF (.tmp rfl) rfl .bool) ?_
    refine WL.mv rfl rfl ?_
    refine WL.pass rfl rfl rfl rfl rfl rfl rfl ?_
    refine WL.pass rfl rfl rfl rfl rfl rfl rfl ?_
    refine WL.pass rfl rfl rfl rfl rfl rfl rfl ?_
    refine WL.op rfl (Op1.pickF (.tmp rfl) rfl .bool) ?_
    refine WL.mv rfl rfl ?_
    refine WL.pass rfl rfl rfl rfl rfl rfl rfl ?_
    refine WL.pass rfl rfl rfl rfl rfl rfl rfl ?_
    refine WL.op rfl (Op1.pickF (.tmp rfl) rfl .bool) ?_
    refine WL.mv rfl rfl ?_
    refine WL.pass rfl rfl rfl rfl rfl rfl rfl ?_
    refine WL.pass rfl rfl rfl rfl rfl rfl rfl ?_
    refine WL.pass rfl rfl rfl rfl rfl rfl rfl ?_
    refine WL.op rfl (Op1.pickF (.tmp rfl) rfl .bool) ?_
    refine WL.mv rfl rfl ?_
    refine WL.pass rfl rfl rfl rfl rfl rfl rfl ?_
    refine WL.pass rfl rfl rfl rfl rfl rfl rfl ?_
    refine WL.op rfl (Op1.pickF (.tmp rfl) rfl .bool) ?_
    refine WL.gv rfl rfl ?_
    refine WL.ns ?_
    cases hm
    exact W.ret1 () rfl (.tmp rfl) trivial

theorem r04_Word_spec (n : Nat) (s0_ : Str) (r : Bool) (hm : M.r04_Word n s0_ = some r) : FSpec Try.prog 34 [(tS.is s0_)] (tB.is r) := by
  unfold M.r04_Word at hm
  refine FSpec.of Try.func34 rfl rfl rfl (fun g0 => ?_)
  refine W.sr ?_
  refine WL.op rfl (Op1.assign .bool) ?_
  refine WL.ns ?_
  refine W.seq ?_
  obtain ⟨s1, hs2, hk3⟩ := bind_some hm
  clear hm
  refine W.join (fun s : Bool => s = s1) (fun s => [(11, (tB.is s)), (0, (tS.is s0_))]) (fun s => []) ?_ ?_
  · rintro v hj24
    try dsimp only at hj24
    subst hj24
    have hm := hk3
    clear hk3
    try dsimp only at hm
    change W _ _ _ _ _ _ _ [(11, (tB.is v)), (0, (tS.is s0_))] []
    refine W.cond (.tmp rfl) (fun hc6 => ?_) (fun hc6 => ?_)
    · have hp7 := hc6
      rw [if_pos hp7] at hm
      refine W.sr ?_
      refine WL.op rfl (Op1.assign .bool) ?_
      refine WL.ns ?_
      cases hm
      exact W.ret1 () rfl (.tmp rfl) trivial
    · have hp7 := ne_of_false hc6
      rw [if_neg hp7] at hm
      refine W.skip ?_
      refine WN.seq ?_
      refine W.seq ?_
      refine W.sr ?_
      refine WL.op rfl (Op1.assign (.int (inR64.2 (by omega)))) ?_
      refine WL.ns ?_
      refine W.block ?_
      obtain ⟨s8, hs9, hk10⟩ := bind_some hm
      clear hm
      refine W.loop (fun m (s : Int) => M.r04_Word_loop1 s0_ m s = some s8) (fun s => [(3, ((tI .i64).is s)), (0, (tS.is s0_))]) (fun s => []) _ (0 : Int) hs9 ⟨Ent.q rfl, Ent.q rfl, trivial⟩ trivial ?_
      rintro n11 i hm
      try dsimp only at hm
      change W _ _ _ _ _ _ _ [(3, ((tI .i64).is i)), (0, (tS.is s0_))] []
      cases n11 with
      | zero => rw [M.r04_Word_loop1.eq_1] at hm; cases hm
      | succ n11 =>
        rw [M.r04_Word_loop1.eq_2] at hm
        refine W.seq ?_
        refine W.sr ?_
        refine WL.mv rfl rfl ?_
        refine WL.mv rfl rfl ?_
        refine WL.op rfl (Op1.lenS Try.underlying9 (.tmp rfl)) ?_
        refine WL.op rfl (Op1.ltI (.tmp rfl) (.tmp rfl)) ?_
        refine WL.ns ?_
        refine W.cond (.tmp rfl) (fun hc12 => ?_) (fun hc12 => ?_)
        · have hp13 := of_decide_eq_true hc12
          rw [if_pos hp13] at hm
          refine W.skip ?_
          refine WN.seq ?_
          refine W.seq ?_
          refine W.block ?_
          refine W.sr ?_
          refine WL.mv rfl rfl ?_
          refine WL.mv rfl rfl ?_
          obtain ⟨b, hv14, hm⟩ := bind_some hm
          refine WL.op rfl (Op1.sidx hv14 Try.underlying9 (.tmp rfl) (.tmp rfl)) ?_
          refine WL.op rfl (Op1.ltI (.tmp rfl) (.int (inR8.2 (by omega)))) ?_
          refine WL.mv rfl rfl ?_
          rcases bcases (decide ((b.toNat : Int) < (33 : Int))) with hb15 | hb15
          · have hp16 := of_decide_eq_true hb15
            rw [if_pos hp16] at hm
            refine WL.pass rfl rfl rfl rfl hb15 rfl rfl ?_
            refine WL.pass rfl rfl rfl rfl hb15 rfl rfl ?_
            refine WL.pass rfl rfl rfl rfl hb15 rfl rfl ?_
            refine WL.pass rfl rfl rfl rfl hb15 rfl rfl ?_
            refine WL.op rfl (Op1.pickT (.tmp rfl) hb15 .bool) ?_
            refine WL.ns ?_
            refine W.condT (.tmp rfl) ?_
            refine W.sr ?_
            refine WL.op rfl (Op1.assign .bool) ?_
            refine WL.ns ?_
            have hr17 := Option.some.inj hm
            clear hm
            subst hr17
            have hm := hk10
            try dsimp only at hm
            cases hm
            exact W.ret1 () rfl (.tmp rfl) trivial
          · have hp16 := of_decide_eq_false hb15
            rw [if_neg hp16] at hm
            refine WL.run rfl rfl rfl rfl hb15 rfl rfl (Op1.move (.tmp rfl)) ?_
            refine WL.run rfl rfl rfl rfl hb15 rfl rfl (Op1.move (.tmp rfl)) ?_
            obtain ⟨b1, hv18, hm⟩ := bind_some hm
            refine WL.run rfl rfl rfl rfl hb15 rfl rfl (Op1.sidx hv18 Try.underlying9 (.tmp rfl) (.tmp rfl)) ?_
            refine WL.run rfl rfl rfl rfl hb15 rfl rfl (Op1.gtI (.tmp rfl) (.int (inR8.2 (by omega)))) ?_
            refine WL.op rfl (Op1.pickF (.tmp rfl) hb15 (.tmp rfl)) ?_
            refine WL.ns ?_
            refine W.cond (.tmp rfl) (fun hc19 => ?_) (fun hc19 => ?_)
            · have hp20 := of_decide_eq_true hc19
              rw [if_pos hp20] at hm
              refine W.sr ?_
              refine WL.op rfl (Op1.assign .bool) ?_
              refine WL.ns ?_
              have hr21 := Option.some.inj hm
              clear hm
              subst hr21
              have hm := hk10
              try dsimp only at hm
              cases hm
              exact W.ret1 () rfl (.tmp rfl) trivial
            · have hp20 := of_decide_eq_false hc19
              rw [if_neg hp20] at hm
              refine W.skip ?_
              refine WN.block ?_
              refine WN.seq ?_
              refine W.region ?_
              refine WL.mv rfl rfl ?_
              refine WL.lenS (s := 0) (.tmp rfl) fun hl22 => ?_
              refine WL.op rfl (Op1.addI1 (.tmp rfl) (.int (inR64.2 (by omega))) hp13 hl22) ?_
              refine WL.gv rfl rfl ?_
              refine WL.nil ?_
              exact WN.again n11 (i + 1) (Nat.lt_succ_self n11) hm ⟨Ent.q rfl, Ent.q rfl, trivial⟩ trivial
        · have hp13 := of_decide_eq_false hc12
          rw [if_neg hp13] at hm
          refine W.exit rfl ?_
          have hr23 := Option.some.inj hm
          clear hm
          subst hr23
          have hm := hk10
          try dsimp only at hm
          refine WN.seq ?_
          refine W.sr ?_
          refine WL.op rfl (Op1.assign .bool) ?_
          refine WL.ns ?_
          cases hm
          exact W.ret1 () rfl (.tmp rfl) trivial
  · have hm := hs2
    clear hs2
    refine W.region ?_
    refine WL.mv rfl rfl ?_
    refine WL.op rfl (Op1.lenS Try.underlying9 (.tmp rfl)) ?_
    refine WL.op rfl (Op1.ltI (.tmp rfl) (.int (inR64.2 (by omega)))) ?_
    refine WL.mv rfl rfl ?_
    rcases bcases (decide ((s0_.length : Int) < (1 : Int))) with hb4 | hb4
    · have hp5 := of_decide_eq_true hb4
      rw [if_pos hp5] at hm
      refine WL.pass rfl rfl rfl rfl hb4 rfl rfl ?_
      refine WL.pass rfl rfl rfl rfl hb4 rfl rfl ?_
      refine WL.pass rfl rfl rfl rfl hb4 rfl rfl ?_
      refine WL.op rfl (Op1.pickT (.tmp rfl) hb4 .bool) ?_
      refine WL.nil ?_
      exact WN.meet true (Option.some.inj hm) ⟨Ent.q rfl, Ent.q rfl, trivial⟩ trivial
    · have hp5 := of_decide_eq_false hb4
      rw [if_neg hp5] at hm
      refine WL.run rfl rfl rfl rfl hb4 rfl rfl (Op1.move (.tmp rfl)) ?_
      refine WL.run rfl rfl rfl rfl hb4 rfl rfl (Op1.lenS Try.underlying9 (.tmp rfl)) ?_
      refine WL.run rfl rfl rfl rfl hb4 rfl rfl (Op1.gtI (.tmp rfl) (.int (inR64.2 (by omega)))) ?_
      refine WL.op rfl (Op1.pickF (.tmp rfl) hb4 (.tmp rfl)) ?_
      refine WL.nil ?_
      exact WN.meet (decide ((24 : Int) < (s0_.length : Int))) (Option.some.inj hm) ⟨Ent.q rfl, Ent.q rfl, trivial⟩ trivial

theorem r04_May_spec (n : Nat) (l : List Str) (r : Bool) (hm : M.r04_May n l = some r) : FSpec Try.prog 21 [((tL tS).is l)] (tB.is r) := by
  unfold M.r04_May at hm
  refine FSpec.of Try.func21 rfl rfl rfl (fun g0 => ?_)
  refine W.sr ?_
  refine WL.op rfl (Op1.assign .bool) ?_
  refine WL.ns ?_
  refine W.seq ?_
  refine W.sr ?_
  refine WL.mv rfl rfl ?_
  refine WL.op rfl (Op1.lenL Try.underlying22 (.tmp rfl)) ?_
  refine WL.op rfl (Op1.gtI (.tmp rfl) (.int (inR64.2 (by omega)))) ?_
  refine WL.ns ?_
  refine W.cond (.tmp rfl) (fun hc1 => ?_) (fun hc1 => ?_)
  · have hp2 := of_decide_eq_true hc1
    rw [if_pos hp2] at hm
    refine W.sr ?_
    refine WL.op rfl (Op1.assign .bool) ?_
    refine WL.ns ?_
    cases hm
    exact W.ret1 () rfl (.tmp rfl) trivial
  · have hp2 := of_decide_eq_false hc1
    rw [if_neg hp2] at hm
    refine W.skip ?_
    refine WN.seq ?_
    refine W.seq ?_
    refine W.sr ?_
    refine WL.op rfl (Op1.assign (.int (inR64.2 (by omega)))) ?_
    refine WL.ns ?_
    refine W.block ?_
    obtain ⟨s3, hs4, hk5⟩ := bind_some hm
    clear hm
    refine W.loop (fun m (s : Int) => M.r04_May_loop1 l m s = some s3) (fun s => [(3, ((tI .i64).is s)), (0, ((tL tS).is l))]) (fun s => []) _ (0 : Int) hs4 ⟨Ent.q rfl, Ent.q rfl, trivial⟩ trivial ?_
    rintro n6 i hm
    try dsimp only at hm
    change W _ _ _ _ _ _ _ [(3, ((tI .i64).is i)), (0, ((tL tS).is l))] []
    cases n6 with
    | zero => rw [M.r04_May_loop1.eq_1] at hm; cases hm
    | succ n6 =>
      rw [M.r04_May_loop1.eq_2] at hm
      refine W.seq ?_
      refine W.sr ?_
      refine WL.mv rfl rfl ?_
      refine WL.mv rfl rfl ?_
      refine WL.op rfl (Op1.lenL Try.underlying22 (.tmp rfl)) ?_
      refine WL.op rfl (Op1.ltI (.tmp rfl) (.tmp rfl)) ?_
      refine WL.ns ?_
      refine W.cond (.tmp rfl) (fun hc7 => ?_) (fun hc7 => ?_)
      · have hp8 := of_decide_eq_true hc7
        rw [if_pos hp8] at hm
        refine W.skip ?_
        refine WN.seq ?_
        refine W.seq ?_
        refine W.block ?_
        refine W.sr ?_
        refine WL.mv rfl rfl ?_
        refine WL.mv rfl rfl ?_
        obtain ⟨v, hv9, hm⟩ := bind_some hm
        refine WL.op rfl (Op1.idx hv9 Try.underlying22 Try.sizeOf9 (.tmp rfl) (.tmp rfl)) ?_
        refine WL.op rfl (Op1.load ty9 (.tmp rfl)) ?_
        obtain ⟨word, hv10, hm⟩ := bind_some hm
        refine WL.op rfl (Op1.call Try.call34 (r04_Word_spec _ _ _ hv10) ⟨(.tmp rfl), trivial⟩) ?_
        refine WL.op rfl (Op1.notB (.tmp rfl)) ?_
        refine WL.ns ?_
        refine W.cond (.tmp rfl) (fun hc11 => ?_) (fun hc11 => ?_)
        · have hp12 := not_pos hc11
          rw [if_pos hp12] at hm
          refine W.sr ?_
          refine WL.op rfl (Op1.assign .bool) ?_
          refine WL.ns ?_
          have hr13 := Option.some.inj hm
          clear hm
          subst hr13
          have hm := hk5
          try dsimp only at hm
          cases hm
          exact W.ret1 () rfl (.tmp rfl) trivial
        · have hp12 := not_neg hc11
          rw [if_neg hp12] at hm
          refine W.skip ?_
          refine WN.block ?_
          refine WN.seq ?_
          refine W.region ?_
          refine WL.mv rfl rfl ?_
          refine WL.lenL (s := 0) (.tmp rfl) fun hl14 => ?_
          refine WL.op rfl (Op1.addI1 (.tmp rfl) (.int (inR64.2 (by omega))) hp8 hl14) ?_
          refine WL.gv rfl rfl ?_
          refine WL.nil ?_
          exact WN.again n6 (i + 1) (Nat.lt_succ_self n6) hm ⟨Ent.q rfl, Ent.q rfl, trivial⟩ trivial
      · have hp8 := of_decide_eq_false hc7
        rw [if_neg hp8] at hm
        refine W.exit rfl ?_
        have hr15 := Option.some.inj hm
        clear hm
        subst hr15
        have hm := hk5
        try dsimp only at hm
        refine WN.seq ?_
        refine W.sr ?_
        refine WL.op rfl (Op1.assign .bool) ?_
        refine WL.ns ?_
        cases hm
        exact W.ret1 () rfl (.tmp rfl) trivial

theorem r04_Text_spec (n : Nat) (l : List Str) (r : Str) (hm : M.r04_Text n l = some r) : FSpec Try.prog 22 [((tL tS).is l)] (tS.is r) := by
  unfold M.r04_Text at hm
  refine FSpec.of Try.func22 rfl rfl rfl (fun g0 => ?_)
  refine W.sr ?_
  refine WL.op rfl (Op1.assign (.str rfl (by decide))) ?_
  refine WL.nr ?_
  refine WL.op rfl (Op1.assign (.str rfl (by decide))) ?_
  refine WL.ns ?_
  refine W.seq ?_
  refine W.sr ?_
  refine WL.op rfl (Op1.assign (.int (inR64.2 (by omega)))) ?_
  refine WL.ns ?_
  refine W.block ?_
  obtain ⟨s1, hs2, hk3⟩ := bind_some hm
  clear hm
  refine W.loop (fun m (s : Str × Int) => M.r04_Text_loop1 l m s.1 s.2 = some s1) (fun s => [(3, (tS.is s.1)), (4, ((tI .i64).is s.2)), (0, ((tL tS).is l))]) (fun s => []) _ (([] : Str), (0 : Int)) hs2 ⟨Ent.q rfl, Ent.q rfl, Ent.q rfl, trivial⟩ trivial ?_
  rintro n4 ⟨s0_, i⟩ hm
  try dsimp only at hm
  change W _ _ _ _ _ _ _ [(3, (tS.is s0_)), (4, ((tI .i64).is i)), (0, ((tL tS).is l))] []
  cases n4 with
  | zero => rw [M.r04_Text_loop1.eq_1] at hm; cases hm
  | succ n4 =>
    rw [M.r04_Text_loop1.eq_2] at hm
    refine W.seq ?_
    refine W.sr ?_
    refine WL.mv rfl rfl ?_
    refine WL.mv rfl rfl ?_
    refine WL.op rfl (Op1.lenL Try.underlying22 (.tmp rfl)) ?_
    refine WL.op rfl (Op1.ltI (.tmp rfl) (.tmp rfl)) ?_
    refine WL.ns ?_
    refine W.cond (.tmp rfl) (fun hc5 => ?_) (fun hc5 => ?_)
    · have hp6 := of_decide_eq_true hc5
      rw [if_pos hp6] at hm
      refine W.skip ?_
      refine WN.seq ?_
      refine W.seq ?_
      refine W.block ?_
      obtain ⟨s7, hs8, hk9⟩ := bind_some hm
      clear hm
      refine W.join (fun s : Str => s = s7) (fun s => [(3, (tS.is s)), (0, ((tL tS).is l)), (4, ((tI .i64).is i))]) (fun s => []) ?_ ?_
      · rintro s0_1 hj16
        try dsimp only at hj16
        subst hj16
        have hm := hk9
        clear hk9
        try dsimp only at hm
        change W _ _ _ _ _ _ _ [(3, (tS.is s0_1)), (0, ((tL tS).is l)), (4, ((tI .i64).is i))] []
        refine W.region ?_
        refine WL.mv rfl rfl ?_
        refine WL.mv rfl rfl ?_
        refine WL.mv rfl rfl ?_
        obtain ⟨v1, hv13, hm⟩ := bind_some hm
        refine WL.op rfl (Op1.idx hv13 Try.underlying22 Try.sizeOf9 (.tmp rfl) (.tmp rfl)) ?_
        refine WL.op rfl (Op1.load ty9 (.tmp rfl)) ?_
        obtain ⟨v2, hv14, hm⟩ := bind_some hm
        refine WL.op rfl (Op1.catC hv14 (.tmp rfl) (.tmp rfl)) ?_
        refine WL.gv rfl rfl ?_
        refine WL.nil ?_
        refine WN.block ?_
        refine WN.seq ?_
        refine W.region ?_
        refine WL.mv rfl rfl ?_
        refine WL.lenL (s := 0) (.tmp rfl) fun hl15 => ?_
        refine WL.op rfl (Op1.addI1 (.tmp rfl) (.int (inR64.2 (by omega))) hp6 hl15) ?_
        refine WL.gv rfl rfl ?_
        refine WL.nil ?_
        exact WN.again n4 (v2, i + 1) (Nat.lt_succ_self n4) hm ⟨Ent.q rfl, Ent.q rfl, Ent.q rfl, trivial⟩ trivial
      · have hm := hs8
        clear hs8
        refine W.sr ?_
        refine WL.mv rfl rfl ?_
        refine WL.op rfl (Op1.gtI (.tmp rfl) (.int (inR64.2 (by omega)))) ?_
        refine WL.ns ?_
        refine W.cond (.tmp rfl) (fun hc10 => ?_) (fun hc10 => ?_)
        · have hp11 := of_decide_eq_true hc10
          rw [if_pos hp11] at hm
          refine W.region ?_
          refine WL.mv rfl rfl ?_
          obtain ⟨v, hv12, hm⟩ := bind_some hm
          refine WL.op rfl (Op1.catC hv12 (.tmp rfl) (.str rfl (by decide))) ?_
          refine WL.gv rfl rfl ?_
          refine WL.nil ?_
          exact WN.meet v (Option.some.inj hm) ⟨Ent.q rfl, Ent.q rfl, Ent.q rfl, trivial⟩ trivial
        · have hp11 := of_decide_eq_false hc10
          rw [if_neg hp11] at hm
          refine W.skip ?_
          exact WN.meet s0_ (Option.some.inj hm) ⟨Ent.q rfl, Ent.q rfl, Ent.q rfl, trivial⟩ trivial
    · have hp6 := of_decide_eq_false hc5
      rw [if_neg hp6] at hm
      refine W.exit rfl ?_
      have hr17 := Option.some.inj hm
      clear hm
      subst hr17
      have hm := hk3
      try dsimp only at hm
      refine WN.seq ?_
      refine W.sr ?_
      refine WL.mv rfl rfl ?_
      refine WL.gv rfl rfl ?_
      refine WL.ns ?_
      cases hm
      exact W.ret1 () rfl (.tmp rfl) trivial

theorem slices_IndexFunc_string_string_spec (n : Nat) (s0_ : List Str) (f : Str → Option Bool) (r : Int) (hm : M.slices_IndexFunc_string_string n s0_ f = some r) : FSpec Try.prog 40 [((tL tS).is s0_), (tF Try.prog (fun s : Str × Bool => f s.1 = some s.2) (fun s : Str × Bool => [tS.is s.1]) (fun s : Str × Bool => (tB.is s.2)))] ((tI .i64).is r) := by
  unfold M.slices_IndexFunc_string_string at hm
  refine FSpec.of Try.func40 rfl rfl rfl (fun g0 => ?_)
  refine W.sr ?_
  refine WL.op rfl (Op1.assign (.int (inR64.2 (by omega)))) ?_
  refine WL.ns ?_
  refine W.seq ?_
  refine W.sr ?_
  refine WL.mv rfl rfl ?_
  refine WL.op rfl (Op1.lenL Try.underlying22 (.tmp rfl)) ?_
  refine WL.op rfl (Op1.move (.int (inR64.2 (by omega)))) ?_
  refine WL.ns ?_
  refine W.block ?_
  obtain ⟨s1, hs2, hk3⟩ := bind_some hm
  clear hm
  refine W.loop (fun m (s : Int) => M.slices_IndexFunc_string_string_loop1 s0_ f m s = some s1) (fun s => [(8, ((tI .i64).is s)), (0, ((tL tS).is s0_)), (1, (tF Try.prog (fun s : Str × Bool => f s.1 = some s.2) (fun s : Str × Bool => [tS.is s.1]) (fun s : Str × Bool => (tB.is s.2)))), (7, ((tI .i64).is (s0_.length : Int)))]) (fun s => []) _ (0 : Int) hs2 ⟨Ent.q rfl, Ent.q rfl, Ent.q rfl, Ent.q rfl, trivial⟩ trivial ?_
  rintro n4 v hm
  try dsimp only at hm
  change W _ _ _ _ _ _ _ [(8, ((tI .i64).is v)), (0, ((tL tS).is s0_)), (1, (tF Try.prog (fun s : Str × Bool => f s.1 = some s.2) (fun s : Str × Bool => [tS.is s.1]) (fun s : Str × Bool => (tB.is s.2)))), (7, ((tI .i64).is (s0_.length : Int)))] []
  cases n4 with
  | zero => rw [M.slices_IndexFunc_string_string_loop1.eq_1] at hm; cases hm
  | succ n4 =>
    rw [M.slices_IndexFunc_string_string_loop1.eq_2] at hm
    refine W.sr ?_
    refine WL.op rfl (Op1.ltI (.tmp rfl) (.tmp rfl)) ?_
    refine WL.ns ?_
    refine W.seq ?_
    refine W.cond (.tmp rfl) (fun hc5 => ?_) (fun hc5 => ?_)
    · have hp6 := of_decide_eq_true hc5
      rw [if_pos hp6] at hm
      refine W.skip ?_
      refine WN.seq ?_
      refine W.seq ?_
      refine W.block ?_
      refine W.sr ?_
      refine WL.mv rfl rfl ?_
      refine WL.gv rfl rfl ?_
      refine WL.nr ?_
      refine WL.mv rfl rfl ?_
      refine WL.mv rfl rfl ?_
      refine WL.mv rfl rfl ?_
      obtain ⟨v1, hv7, hm⟩ := bind_some hm
      refine WL.op rfl (Op1.idx hv7 Try.underlying22 Try.sizeOf9 (.tmp rfl) (.tmp rfl)) ?_
      refine WL.op rfl (Op1.load ty9 (.tmp rfl)) ?_
      obtain ⟨v2, hv8, hm⟩ := bind_some hm
      refine WL.op rfl (Op1.callF (ok := (fun s : Str × Bool => f s.1 = some s.2)) (As := (fun s : Str × Bool => [tS.is s.1])) (A := (fun s : Str × Bool => (tB.is s.2))) (s := (v1, v2)) (.tmp rfl) hv8 ⟨(.tmp rfl), trivial⟩) ?_
      refine WL.ns ?_
      refine W.cond (.tmp rfl) (fun hc9 => ?_) (fun hc9 => ?_)
      · have hp10 := hc9
        rw [if_pos hp10] at hm
        refine W.sr ?_
        refine WL.mv rfl rfl ?_
        refine WL.gv rfl rfl ?_
        refine WL.ns ?_
        have hr11 := Option.some.inj hm
        clear hm
        subst hr11
        have hm := hk3
        try dsimp only at hm
        cases hm
        exact W.ret1 () rfl (.tmp rfl) trivial
      · have hp10 := ne_of_false hc9
        rw [if_neg hp10] at hm
        refine W.skip ?_
        refine WN.block ?_
        refine WN.seq ?_
        refine W.region ?_
        refine WL.lenL (s := 0) (.tmp rfl) fun hl12 => ?_
        refine WL.op rfl (Op1.addI1 (.tmp rfl) (.int (inR64.2 (by omega))) hp6 hl12) ?_
        refine WL.mv rfl rfl ?_
        refine WL.nil ?_
        exact WN.again n4 (v + 1) (Nat.lt_succ_self n4) hm ⟨Ent.q rfl, Ent.q rfl, Ent.q rfl, Ent.q rfl, trivial⟩ trivial
    · have hp6 := of_decide_eq_false hc5
      rw [if_neg hp6] at hm
      refine W.exit rfl ?_
      have hr13 := Option.some.inj hm
      clear hm
      subst hr13
      have hm := hk3
      try dsimp only at hm
      refine WN.seq ?_
      refine W.sr ?_
      refine WL.op rfl (Op1.assign (.int (inR64.2 (by omega)))) ?_
      refine WL.ns ?_
      cases hm
      exact W.ret1 () rfl (.tmp rfl) trivial

theorem slices_ContainsFunc_string_string_spec (n : Nat) (s0_ : List Str) (f : Str → Option Bool) (r : Bool) (hm : M.slices_ContainsFunc_string_string n s0_ f = some r) : FSpec Try.prog 35 [((tL tS).is s0_), (tF Try.prog (fun s : Str × Bool => f s.1 = some s.2) (fun s : Str × Bool => [tS.is s.1]) (fun s : Str × Bool => (tB.is s.2)))] (tB.is r) := by
  unfold M.slices_ContainsFunc_string_string at hm
  refine FSpec.of Try.func35 rfl rfl rfl (fun g0 => ?_)
  refine W.sr ?_
  refine WL.op rfl (Op1.assign .bool) ?_
  refine WL.nr ?_
  refine WL.mv rfl rfl ?_
  refine WL.mv rfl rfl ?_
  obtain ⟨string, hv1, hm⟩ := bind_some hm
  refine WL.op rfl (Op1.call Try.call40 (slices_IndexFunc_string_string_spec _ _ _ _ hv1) ⟨(.tmp rfl), (.tmp rfl), trivial⟩) ?_
  refine WL.op rfl (Op1.geI (.tmp rfl) (.int (inR64.2 (by omega)))) ?_
  refine WL.gv rfl rfl ?_
  refine WL.ns ?_
  cases hm
  exact W.ret1 () rfl (.tmp rfl) trivial

theorem slices_IndexFunc_byte_byte_spec (n : Nat) (s0_ : List Int) (f : Int → Option Bool) (r : Int) (hm : M.slices_IndexFunc_byte_byte n s0_ f = some r) : FSpec Try.prog 46 [((tL (tI .u8)).is s0_), (tF Try.prog (fun s : Int × Bool => f s.1 = some s.2) (fun s : Int × Bool => [(tI .u8).is s.1]) (fun s : Int × Bool => (tB.is s.2)))] ((tI .i64).is r) := by
  unfold M.slices_IndexFunc_byte_byte at hm
  refine FSpec.of Try.func46 rfl rfl rfl (fun g0 => ?_)
  refine W.sr ?_
  refine WL.op rfl (Op1.assign (.int (inR64.2 (by omega)))) ?_
  refine WL.ns ?_
  refine W.seq ?_
  refine W.sr ?_
  refine WL.mv rfl rfl ?_
  refine WL.op rfl (Op1.lenL Try.underlying52 (.tmp rfl)) ?_
  refine WL.op rfl (Op1.move (.int (inR64.2 (by omega)))) ?_
  refine WL.ns ?_
  refine W.block ?_
  obtain ⟨s1, hs2, hk3⟩ := bind_some hm
  clear hm
  refine W.loop (fun m (s : Int) => M.slices_IndexFunc_byte_byte_loop1 s0_ f m s = some s1) (fun s => [(8, ((tI .i64).is s)), (0, ((tL (tI .u8)).is s0_)), (1, (tF Try.prog (fun s : Int × Bool => f s.1 = some s.2) (fun s : Int × Bool => [(tI .u8).is s.1]) (fun s : Int × Bool => (tB.is s.2)))), (7, ((tI .i64).is (s0_.length : Int)))]) (fun s => []) _ (0 : Int) hs2 ⟨Ent.q rfl, Ent.q rfl, Ent.q rfl, Ent.q rfl, trivial⟩ trivial ?_
  rintro n4 v hm
  try dsimp only at hm
  change W _ _ _ _ _ _ _ [(8, ((tI .i64).is v)), (0, ((tL (tI .u8)).is s0_)), (1, (tF Try.prog (fun s : Int × Bool => f s.1 = some s.2) (fun s : Int × Bool => [(tI .u8).is s.1]) (fun s : Int × Bool => (tB.is s.2)))), (7, ((tI .i64).is (s0_.length : Int)))] []
  cases n4 with
  | zero => rw [M.slices_IndexFunc_byte_byte_loop1.eq_1] at hm; cases hm
  | succ n4 =>
    rw [M.slices_IndexFunc_byte_byte_loop1.eq_2] at hm
    refine W.sr ?_
    refine WL.op rfl (Op1.ltI (.tmp rfl) (.tmp rfl)) ?_
    refine WL.ns ?_
    refine W.seq ?_
    refine W.cond (.tmp rfl) (fun hc5 => ?_) (fun hc5 => ?_)
    · have hp6 := of_decide_eq_true hc5
      rw [if_pos hp6] at hm
      refine W.skip ?_
      refine WN.seq ?_
      refine W.seq ?_
      refine W.block ?_
      refine W.sr ?_
      refine WL.mv rfl rfl ?_
      refine WL.gv rfl rfl ?_
      refine WL.nr ?_
      refine WL.mv rfl rfl ?_
      refine WL.mv rfl rfl ?_
      refine WL.mv rfl rfl ?_
      obtain ⟨v1, hv7, hm⟩ := bind_some hm
      refine WL.op rfl (Op1.idx hv7 Try.underlying52 Try.sizeOf5 (.tmp rfl) (.tmp rfl)) ?_
      refine WL.op rfl (Op1.load ty5 (.tmp rfl)) ?_
      obtain ⟨v2, hv8, hm⟩ := bind_some hm
      refine WL.op rfl (Op1.callF (ok := (fun s : Int × Bool => f s.1 = some s.2)) (As := (fun s : Int × Bool => [(tI .u8).is s.1])) (A := (fun s : Int × Bool => (tB.is s.2))) (s := (v1, v2)) (.tmp rfl) hv8 ⟨(.tmp rfl), trivial⟩) ?_
      refine WL.ns ?_
      refine W.cond (.tmp rfl) (fun hc9 => ?_) (fun hc9 => ?_)
      · have hp10 := hc9
        rw [if_pos hp10] at hm
        refine W.sr ?_
        refine WL.mv rfl rfl ?_
        refine WL.gv rfl rfl ?_
        refine WL.ns ?_
        have hr11 := Option.some.inj hm
        clear hm
        subst hr11
        have hm := hk3
        try dsimp only at hm
        cases hm
        exact W.ret1 () rfl (.tmp rfl) trivial
      · have hp10 := ne_of_false hc9
        rw [if_neg hp10] at hm
        refine W.skip ?_
        refine WN.block ?_
        refine WN.seq ?_
        refine W.region ?_
        refine WL.lenL (s := 0) (.tmp rfl) fun hl12 => ?_
        refine WL.op rfl (Op1.addI1 (.tmp rfl) (.int (inR64.2 (by omega))) hp6 hl12) ?_
        refine WL.mv rfl rfl ?_
        refine WL.nil ?_
        exact WN.again n4 (v + 1) (Nat.lt_succ_self n4) hm ⟨Ent.q rfl, Ent.q rfl, Ent.q rfl, Ent.q rfl, trivial⟩ trivial
    · have hp6 := of_decide_eq_false hc5
      rw [if_neg hp6] at hm
      refine W.exit rfl ?_
      have hr13 := Option.some.inj hm
      clear hm
      subst hr13
      have hm := hk3
      try dsimp only at hm
      refine WN.seq ?_
      refine W.sr ?_
      refine WL.op rfl (Op1.assign (.int (inR64.2 (by omega)))) ?_
      refine WL.ns ?_
      cases hm
      exact W.ret1 () rfl (.tmp rfl) trivial

theorem slices_ContainsFunc_byte_byte_spec (n : Nat) (s0_ : List Int) (f : Int → Option Bool) (r : Bool) (hm : M.slices_ContainsFunc_byte_byte n s0_ f = some r) : FSpec Try.prog 42 [((tL (tI .u8)).is s0_), (tF Try.prog (fun s : Int × Bool => f s.1 = some s.2) (fun s : Int × Bool => [(tI .u8).is s.1]) (fun s : Int × Bool => (tB.is s.2)))] (tB.is r) := by
  unfold M.slices_ContainsFunc_byte_byte at hm
  refine FSpec.of Try.func42 rfl rfl rfl (fun g0 => ?_)
  refine W.sr ?_
  refine WL.op rfl (Op1.assign .bool) ?_
  refine WL.nr ?_
  refine WL.mv rfl rfl ?_
  refine WL.mv rfl rfl ?_
  obtain ⟨byte, hv1, hm⟩ := bind_some hm
  refine WL.op rfl (Op1.call Try.call46 (slices_IndexFunc_byte_byte_spec _ _ _ _ hv1) ⟨(.tmp rfl), (.tmp rfl), trivial⟩) ?_
  refine WL.op rfl (Op1.geI (.tmp rfl) (.int (inR64.2 (by omega)))) ?_
  refine WL.gv rfl rfl ?_
  refine WL.ns ?_
  cases hm
  exact W.ret1 () rfl (.tmp rfl) trivial

theorem wordseq_word_1_spec (c : Int) (r : Bool) (hm : M.wordseq_word_1 c = some r) : FSpec Try.prog 41 [((tI .u8).is c)] (tB.is r) := by
  unfold M.wordseq_word_1 at hm
  refine FSpec.of Try.func41 rfl rfl rfl (fun g0 => ?_)
  refine W.sr ?_
  refine WL.op rfl (Op1.assign .bool) ?_
  refine WL.nr ?_
  refine WL.mv rfl rfl ?_
  refine WL.op rfl (Op1.ltI (.tmp rfl) (.int (inR8.2 (by omega)))) ?_
  refine WL.mv rfl rfl ?_
  rcases bcases (decide (c < (33 : Int))) with hb1 | hb1
  · have hp2 := of_decide_eq_true hb1
    rw [if_pos hp2] at hm
    refine WL.pass rfl rfl rfl rfl hb1 rfl rfl ?_
    refine WL.pass rfl rfl rfl rfl hb1 rfl rfl ?_
    refine WL.op rfl (Op1.pickT (.tmp rfl) hb1 .bool) ?_
    refine WL.gv rfl rfl ?_
    refine WL.ns ?_
    cases hm
    exact W.ret1 () rfl (.tmp rfl) trivial
  · have hp2 := of_decide_eq_false hb1
    rw [if_neg hp2] at hm
    refine WL.run rfl rfl rfl rfl hb1 rfl rfl (Op1.move (.tmp rfl)) ?_
    refine WL.run rfl rfl rfl rfl hb1 rfl rfl (Op1.gtI (.tmp rfl) (.int (inR8.2 (by omega)))) ?_
    refine WL.op rfl (Op1.pickF (.tmp rfl) hb1 (.tmp rfl)) ?_
    refine WL.gv rfl rfl ?_
    refine WL.ns ?_
    cases hm
    exact W.ret1 () rfl (.tmp rfl) trivial

theorem wordseq_word_spec (n : Nat) (s0_ : Str) (r : Bool) (hm : M.wordseq_word n s0_ = some r) : FSpec Try.prog 37 [(tS.is s0_)] (tB.is r) := by
  unfold M.wordseq_word at hm
  refine FSpec.of Try.func37 rfl rfl rfl (fun g0 => ?_)
  refine W.sr ?_
  refine WL.op rfl (Op1.assign .bool) ?_
  refine WL.nr ?_
  refine WL.op rfl (Op1.assign .func) ?_
  refine WL.nr ?_
  refine WL.mv rfl rfl ?_
  refine WL.op rfl (Op1.neS (.tmp rfl) (.str rfl (by decide))) ?_
  refine WL.mv rfl rfl ?_
  rcases bcases (s0_ != ([] : Str)) with hb1 | hb1
  · have hp2 := hb1
    rw [if_pos hp2] at hm
    refine WL.run rfl rfl rfl rfl hb1 rfl rfl (Op1.move (.tmp rfl)) ?_
    refine WL.run rfl rfl rfl rfl hb1 rfl rfl (Op1.lenS Try.underlying9 (.tmp rfl)) ?_
    refine WL.run rfl rfl rfl rfl hb1 rfl rfl (Op1.leI (.tmp rfl) (.int (inR64.2 (by omega)))) ?_
    refine WL.op rfl (Op1.pickT (.tmp rfl) hb1 (.tmp rfl)) ?_
    refine WL.mv rfl rfl ?_
    rcases bcases (decide ((s0_.length : Int) ≤ (24 : Int))) with hb3 | hb3
    · have hp4 := of_decide_eq_true hb3
      rw [if_pos hp4] at hm
      refine WL.run rfl rfl rfl rfl hb3 rfl rfl (Op1.move (.tmp rfl)) ?_
      refine WL.run rfl rfl rfl rfl hb3 rfl rfl (Op1.bytes Try.underlying9 Try.underlying52 Try.underlying5 (.tmp rfl)) ?_
      refine WL.run rfl rfl rfl rfl hb3 rfl rfl (Op1.move (.tmp rfl)) ?_
      obtain ⟨byte, hv5, hm⟩ := bind_some hm
      refine WL.run rfl rfl rfl rfl hb3 rfl rfl (Op1.call Try.call42 (slices_ContainsFunc_byte_byte_spec _ _ _ _ hv5) ⟨(.tmp rfl), (Opd.fnE (.tmp rfl) Try.call41 (fun s hs => wordseq_word_1_spec _ _ hs)), trivial⟩) ?_
      refine WL.run rfl rfl rfl rfl hb3 rfl rfl (Op1.notB (.tmp rfl)) ?_
      refine WL.op rfl (Op1.pickT (.tmp rfl) hb3 (.tmp rfl)) ?_
      refine WL.gv rfl rfl ?_
      refine WL.ns ?_
      cases hm
      exact W.ret1 () rfl (.tmp rfl) trivial
    · have hp4 := of_decide_eq_false hb3
      rw [if_neg hp4] at hm
      refine WL.pass rfl rfl rfl rfl hb3 rfl rfl ?_
      refine WL.pass rfl rfl rfl rfl hb3 rfl rfl ?_
      refine WL.pass rfl rfl rfl rfl hb3 rfl rfl ?_
      refine WL.pass rfl rfl rfl rfl hb3 rfl rfl ?_
      refine WL.pass rfl rfl rfl rfl hb3 rfl rfl ?_
      refine WL.op rfl (Op1.pickF (.tmp rfl) hb3 .bool) ?_
      refine WL.gv rfl rfl ?_
      refine WL.ns ?_
      cases hm
      exact W.ret1 () rfl (.tmp rfl) trivial
  · have hp2 := ne_of_false hb1
    rw [if_neg hp2] at hm
    refine WL.pass rfl rfl rfl rfl hb1 rfl rfl ?_
    refine WL.pass rfl rfl rfl rfl hb1 rfl rfl ?_
    refine WL.pass rfl rfl rfl rfl hb1 rfl rfl ?_
    refine WL.op rfl (Op1.pickF (.tmp rfl) hb1 .bool) ?_
    refine WL.mv rfl rfl ?_
    refine WL.pass rfl rfl rfl rfl rfl rfl rfl ?_
    refine WL.pass rfl rfl rfl rfl rfl rfl rfl ?_
    refine WL.pass rfl rfl rfl rfl rfl rfl rfl ?_
    refine WL.pass rfl rfl rfl rfl rfl rfl rfl ?_
    refine WL.pass rfl rfl rfl rfl rfl rfl rfl ?_
    refine WL.op rfl (Op1.pickF (.tmp rfl) rfl .bool) ?_
    refine WL.gv rfl rfl ?_
    refine WL.ns ?_
    cases hm
    exact W.ret1 () rfl (.tmp rfl) trivial

theorem wordseq_Valid_1_spec (n : Nat) (s0_ : Str) (r : Bool) (hm : M.wordseq_Valid_1 n s0_ = some r) : FSpec Try.prog 36 [(tS.is s0_)] (tB.is r) := by
  unfold M.wordseq_Valid_1 at hm
  refine FSpec.of Try.func36 rfl rfl rfl (fun g0 => ?_)
  refine W.sr ?_
  refine WL.op rfl (Op1.assign .bool) ?_
  refine WL.nr ?_
  refine WL.mv rfl rfl ?_
  obtain ⟨word, hv1, hm⟩ := bind_some hm
  refine WL.op rfl (Op1.call Try.call37 (wordseq_word_spec _ _ _ hv1) ⟨(.tmp rfl), trivial⟩) ?_
  refine WL.op rfl (Op1.notB (.tmp rfl)) ?_
  refine WL.gv rfl rfl ?_
  refine WL.ns ?_
  cases hm
  exact W.ret1 () rfl (.tmp rfl) trivial

theorem wordseq_Valid_spec (n : Nat) (l : List Str) (r : Bool) (hm : M.wordseq_Valid n l = some r) : FSpec Try.prog 23 [((tL tS).is l)] (tB.is r) := by
  unfold M.wordseq_Valid at hm
  refine FSpec.of Try.func23 rfl rfl rfl (fun g0 => ?_)
  refine W.sr ?_
  refine WL.op rfl (Op1.assign .bool) ?_
  refine WL.nr ?_
  refine WL.mv rfl rfl ?_
  refine WL.op rfl (Op1.lenL Try.underlying22 (.tmp rfl)) ?_
  refine WL.op rfl (Op1.leI (.tmp rfl) (.int (inR64.2 (by omega)))) ?_
  refine WL.mv rfl rfl ?_
  rcases bcases (decide ((l.length : Int) ≤ (256 : Int))) with hb1 | hb1
  · have hp2 := of_decide_eq_true hb1
    rw [if_pos hp2] at hm
    refine WL.run rfl rfl rfl rfl hb1 rfl rfl (Op1.move (.tmp rfl)) ?_
    obtain ⟨string, hv3, hm⟩ := bind_some hm
    refine WL.run rfl rfl rfl rfl hb1 rfl rfl (Op1.call Try.call35 (slices_ContainsFunc_string_string_spec _ _ _ _ hv3) ⟨(.tmp rfl), (Opd.fn Try.call36 (fun s hs => wordseq_Valid_1_spec _ _ _ hs)), trivial⟩) ?_
    refine WL.run rfl rfl rfl rfl hb1 rfl rfl (Op1.notB (.tmp rfl)) ?_
    refine WL.op rfl (Op1.pickT (.tmp rfl) hb1 (.tmp rfl)) ?_
    refine WL.gv rfl rfl ?_
    refine WL.ns ?_
    cases hm
    exact W.ret1 () rfl (.tmp rfl) trivial
  · have hp2 := of_decide_eq_false hb1
    rw [if_neg hp2] at hm
    refine WL.pass rfl rfl rfl rfl hb1 rfl rfl ?_
    refine WL.pass rfl rfl rfl rfl hb1 rfl rfl ?_
    refine WL.pass rfl rfl rfl rfl hb1 rfl rfl ?_
    refine WL.op rfl (Op1.pickF (.tmp rfl) hb1 .bool) ?_
    refine WL.gv rfl rfl ?_
    refine WL.ns ?_
    cases hm
    exact W.ret1 () rfl (.tmp rfl) trivial

theorem strings_Builder_Grow_spec (n : Int) (b : Nat) {u : Unit} (hm : growC n = some u) : FSpecR Try.prog 43 [Bp b 0, (tI .i64).is n] [(0, Bx 2 true 55 (bldA none [] b) b), (1, Own (tI .u8) 5 none 0)] (fun _ : Tok => Asn.eq (.tuple #[])) (fun k => [(0, Bx 2 true 55 (bldA k [] b) b), (1, Own (tI .u8) 5 k 0)]) :=
  FSpecR.bldGrow bld_used bld_fresh bld_Grow 0 1 n b hm

theorem strings_Builder_WriteString_spec (l m r : Str) (k : Tok) (b : Nat) (hm : appC l m = some r) : FSpecR Try.prog 44 [Bp b 0, tS.is m] [(0, Bx 2 true 55 (bldA k l b) b), (1, Own (tI .u8) 5 k l.length)] (fun _ : Tok => Asn.any) (fun kx => [(0, Bx 2 true 55 (bldA kx r b) b), (1, Own (tI .u8) 5 kx r.length)]) := by
  refine FSpecR.of Try.func44 rfl rfl rfl (fun g0 => ?_)
  refine W.sr ?_
  refine WL.op rfl (Op1.assign Opd.const) ?_
  refine WL.op rfl (Op1.assign Opd.const) ?_
  refine WL.nr ?_
  refine WL.mv rfl rfl ?_
  refine WL.opR rfl (OpR.call (us := [0]) Try.call47 (FSpecR.bldCheck bld_used bld_fresh 0 k l b) rfl ⟨(.tmp rfl), trivial⟩) (fun _ => ?_)
  refine WL.nr ?_
  refine WL.mv rfl rfl ?_
  refine WL.mv rfl rfl ?_
  refine WL.op rfl (Op1.nilCheckB (.tmp rfl)) ?_
  refine WL.op rfl (Op1.fieldAddrB (o := 0) Try.underlying55 rfl (fun w => ⟨0, Try.sizeOf52 w⟩) (.tmp rfl) rfl) ?_
  refine WL.op rfl (Op1.loadBld 0 Try.isAgg52 Try.sizeOf52 rfl (.tmp rfl)) ?_
  refine WL.mv rfl rfl ?_
  refine WL.opR rfl (OpR.appendS (key := 1) hm Try.underlying52 Try.underlying9 el5 (.tmp rfl) (.tmp rfl) rfl) (fun k2 => ?_)
  refine WL.op rfl (Op1.nilCheckB (.tmp rfl)) ?_
  refine WL.op rfl (Op1.fieldAddrB (o := 0) Try.underlying55 rfl (fun w => ⟨0, Try.sizeOf52 w⟩) (.tmp rfl) rfl) ?_
  refine WL.opU (OpR.storeBld (b := b) 0 Try.sizeOf52 rfl (.tmp rfl) (.tmp rfl)) (fun _ => ?_)
  refine WL.nr ?_
  refine WL.mv rfl rfl ?_
  refine WL.op rfl (Op1.lenS Try.underlying9 (.tmp rfl)) ?_
  refine WL.gv rfl rfl ?_
  refine WL.op rfl (Op1.assign Opd.const) ?_
  refine WL.nil ?_
  refine WN.seq ?_
  refine W.boxV (A' := bldA k2 r b) 0 rfl (fun _ _ => bldU_A) ?_
  exact W.retAny2 k2 rfl rfl ⟨rfl, rfl, rfl, rfl, trivial⟩

theorem strings_Builder_String_spec (k : Tok) (l : Str) (b : Nat) : FSpecR Try.prog 45 [Bp b 0] [(0, Bx 2 true 55 (bldA k l b) b), (1, Own (tI .u8) 5 k l.length)] (fun _ : Unit => tS.is l) (fun _ => []) :=
  FSpecR.bldString Try.underlying63 (by kernel_rfl) bld_str 0 1 k l b

theorem strings_Join_spec (elems : List Str) (sep : Str) (r : Str) (hm : M.strings_Join elems sep = some r) : FSpec Try.prog 38 [((tL tS).is elems), (tS.is sep)] (tS.is r) := by
  unfold M.strings_Join at hm
  refine FSpec.of Try.func38 rfl rfl rfl (fun g0 => ?_)
  refine W.sr ?_
  refine WL.op rfl (Op1.assign (.str rfl (by decide))) ?_
  refine WL.ns ?_
  refine W.seq ?_
  refine W.sr ?_
  refine WL.mv rfl rfl ?_
  refine WL.op rfl (Op1.lenL Try.underlying22 (.tmp rfl)) ?_
  refine WL.ns ?_
  refine W.block ?_
  refine W.sr ?_
  refine WL.op rfl (Op1.eqI (.tmp rfl) (.int (inR64.2 (by omega)))) ?_
  refine WL.gv rfl rfl ?_
  refine WL.ns ?_
  refine W.cond (.tmp rfl) (fun hc1 => ?_) (fun hc1 => ?_)
  · have hp2 := of_decide_eq_true hc1
    rw [if_pos hp2] at hm
    refine W.sr ?_
    refine WL.op rfl (Op1.assign (.str rfl (by decide))) ?_
    refine WL.ns ?_
    cases hm
    exact W.ret1 () rfl (.tmp rfl) trivial
  · have hp2 := of_decide_eq_false hc1
    rw [if_neg hp2] at hm
    refine W.sr ?_
    refine WL.op rfl (Op1.eqI (.tmp rfl) (.int (inR64.2 (by omega)))) ?_
    refine WL.gv rfl rfl ?_
    refine WL.ns ?_
    refine W.cond (.tmp rfl) (fun hc3 => ?_) (fun hc3 => ?_)
    · have hp4 := of_decide_eq_true hc3
      rw [if_pos hp4] at hm
      refine W.sr ?_
      refine WL.mv rfl rfl ?_
      obtain ⟨v, hv5, hm⟩ := bind_some hm
      refine WL.op rfl (Op1.idx hv5 Try.underlying22 Try.sizeOf9 (.tmp rfl) (.int (inR64.2 (by omega)))) ?_
      refine WL.op rfl (Op1.load ty9 (.tmp rfl)) ?_
      refine WL.gv rfl rfl ?_
      refine WL.ns ?_
      cases hm
      exact W.ret1 () rfl (.tmp rfl) trivial
    · have hp4 := of_decide_eq_false hc3
      rw [if_neg hp4] at hm
      refine W.skip ?_
      refine WN.block ?_
      refine WN.seq ?_
      refine W.sr ?_
      refine WL.op rfl (Op1.assign (.int (inR64.2 (by omega)))) ?_
      refine WL.ns ?_
      obtain ⟨s6, hs7, hk8⟩ := bind_some hm
      clear hm
      refine W.join (fun s : Int => s = s6) (fun s => [(5, ((tI .i64).is s)), (0, ((tL tS).is elems)), (1, (tS.is sep))]) (fun s => []) ?_ ?_
      · rintro n0_ hj58
        try dsimp only at hj58
        subst hj58
        have hm := hk8
        clear hk8
        try dsimp only at hm
        change W _ _ _ _ _ _ _ [(5, ((tI .i64).is n0_)), (0, ((tL tS).is elems)), (1, (tS.is sep))] []
        refine W.seq ?_
        refine W.sr ?_
        refine WL.mv rfl rfl ?_
        refine WL.op rfl (Op1.lenL Try.underlying22 (.tmp rfl)) ?_
        refine WL.op rfl (Op1.move (.int (inR64.2 (by omega)))) ?_
        refine WL.ns ?_
        refine W.block ?_
        obtain ⟨s22, hs23, hk24⟩ := bind_some hm
        clear hm
        refine W.loop (fun m (s : Int × List Str × List Str × Int) => m = s.2.2.1.length ∧ elems = s.2.1 ++ s.2.2.1 ∧ s.1 = (s.2.1.length : Int) ∧ M.strings_Join_loop1 s.2.2.1 s.2.2.2 = some s22) (fun s => [(41, ((tI .i64).is s.1)), (5, ((tI .i64).is s.2.2.2)), (0, ((tL tS).is elems)), (1, (tS.is sep)), (39, ((tL tS).is elems)), (40, ((tI .i64).is (elems.length : Int)))]) (fun s => []) elems.length ((0 : Int), [], elems, n0_) ⟨rfl, rfl, rfl, hs23⟩ ⟨Ent.q rfl, Ent.q rfl, Ent.q rfl, Ent.q rfl, Ent.q rfl, Ent.q rfl, trivial⟩ trivial ?_
        rintro m ⟨i, pre, rest3, n0_1⟩ ⟨hn28, hxs25, hi26, hm⟩
        try dsimp only at hn28 hxs25 hi26 hm
        change W _ _ _ _ _ _ _ [(41, ((tI .i64).is i)), (5, ((tI .i64).is n0_1)), (0, ((tL tS).is elems)), (1, (tS.is sep)), (39, ((tL tS).is elems)), (40, ((tI .i64).is (elems.length : Int)))] []
        refine W.lenL (s := 39) (.tmp rfl) fun hlen27 => ?_
        refine W.sr ?_
        refine WL.op rfl (Op1.ltI (.tmp rfl) (.tmp rfl)) ?_
        refine WL.ns ?_
        refine W.seq ?_
        refine W.cond (.tmp rfl) (fun hc30 => ?_) (fun hc30 => ?_)
        · have hp31 := of_decide_eq_true hc30
          obtain ⟨e, es, hrest33⟩ := range_more hxs25 hi26 hp31
          subst hrest33
          rw [M.strings_Join_loop1.eq_2] at hm
          refine W.skip ?_
          refine WN.seq ?_
          refine W.seq ?_
          refine W.block ?_
          refine W.sr ?_
          refine WL.op rfl (Op1.idxPre hxs25 hi26 Try.underlying22 Try.sizeOf9 (.tmp rfl) (.tmp rfl)) ?_
          refine WL.op rfl (Op1.load ty9 (.tmp rfl)) ?_
          refine WL.gv rfl rfl ?_
          refine WL.ns ?_
          refine W.seq ?_
          refine W.sr ?_
          refine WL.mv rfl rfl ?_
          refine WL.op rfl (Op1.lenS Try.underlying9 (.tmp rfl)) ?_
          refine WL.mv rfl rfl ?_
          obtain ⟨v6, hv34, hm⟩ := bind_some hm
          refine WL.op rfl (Op1.subC hv34 (.int (inR64.2 (by omega))) (.tmp rfl)) ?_
          refine WL.op rfl (Op1.gtI (.tmp rfl) (.tmp rfl)) ?_
          refine WL.ns ?_
          refine W.cond (.tmp rfl) (fun hc35 => ?_) (fun hc35 => ?_)
          · have hp36 := of_decide_eq_true hc35
            rw [if_pos hp36] at hm
            cases hm
          · have hp36 := of_decide_eq_false hc35
            rw [if_neg hp36] at hm
            refine W.skip ?_
            refine WN.seq ?_
            refine W.region ?_
            refine WL.mv rfl rfl ?_
            refine WL.mv rfl rfl ?_
            refine WL.op rfl (Op1.lenS Try.underlying9 (.tmp rfl)) ?_
            obtain ⟨v7, hv37, hm⟩ := bind_some hm
            refine WL.op rfl (Op1.addC hv37 (.tmp rfl) (.tmp rfl)) ?_
            refine WL.gv rfl rfl ?_
            refine WL.nil ?_
            refine WN.block ?_
            refine WN.seq ?_
            refine W.region ?_
            refine WL.op rfl (Op1.addI (.tmp rfl) (.int (inR64.2 (by omega))) (range_inR hi26 hp31 hlen27)) ?_
            refine WL.mv rfl rfl ?_
            refine WL.nil ?_
            exact WN.again es.length (i + 1, pre ++ [e], es, v7) (range_lt hn28) ⟨rfl, range_step hxs25, range_idx hi26, hm⟩ ⟨Ent.q rfl, Ent.q rfl, Ent.q rfl, Ent.q rfl, Ent.q rfl, Ent.q rfl, trivial⟩ trivial
        · have hrest33 := range_end hxs25 hi26 (of_decide_eq_false hc30)
          subst hrest33
          rw [M.strings_Join_loop1.eq_1] at hm
          refine W.exit rfl ?_
          have hr38 := Option.some.inj hm
          clear hm
          subst hr38
          have hm := hk24
          try dsimp only at hm
          refine WN.seq ?_
          refine W.sr ?_
          refine WL.addNil (t := (tI .u8)) (E := 5) 1000008 ?_
          refine WL.opR rfl (OpR.allocBld 8 Try.zeroValue55) (fun b => ?_)
          refine WL.nr ?_
          refine WL.mv rfl rfl ?_
          obtain ⟨_, hv39, hm⟩ := bind_some hm
          refine WL.weakR (res' := [(8, (Bx 2 true 55 (bldA (none : Tok) ([] : Str) b) b)), (1000008, Own (tI .u8) 5 (none : Tok) ([] : Str).length)]) ⟨rfl, rfl, ⟨rfl, rfl, trivial⟩⟩ ?_
          refine WL.opR rfl (OpR.call (us := [8, 1000008]) (A := fun kx : Tok => (Asn.eq (.tuple #[]))) Try.call43 (FSpecR.keys (rin' := [(8, (Bx 2 true 55 (bldA (none : Tok) ([] : Str) b) b)), (1000008, Own (tI .u8) 5 (none : Tok) ([] : Str).length)]) (out' := fun kx : Tok => [(8, (Bx 2 true 55 (bldA kx ([] : Str) b) b)), (1000008, Own (tI .u8) 5 kx ([] : Str).length)]) (strings_Builder_Grow_spec _ _ hv39) rfl (fun _ => rfl)) rfl ⟨(.tmp rfl), (.tmp rfl), trivial⟩) (fun k => ?_)
          refine WL.nr ?_
          refine WL.mv rfl rfl ?_
          obtain ⟨v8, hv40, hm⟩ := bind_some hm
          refine WL.op rfl (Op1.idx hv40 Try.underlying22 Try.sizeOf9 (.tmp rfl) (.int (inR64.2 (by omega)))) ?_
          refine WL.op rfl (Op1.load ty9 (.tmp rfl)) ?_
          obtain ⟨b1, hv41, hm⟩ := bind_some hm
          refine WL.weakR (res' := [(8, (Bx 2 true 55 (bldA k ([] : Str) b) b)), (1000008, Own (tI .u8) 5 k ([] : Str).length)]) ⟨rfl, rfl, ⟨rfl, rfl, trivial⟩⟩ ?_
          refine WL.opR rfl (OpR.call (us := [8, 1000008]) (A := fun kx : Tok => Asn.any) Try.call44 (FSpecR.keys (rin' := [(8, (Bx 2 true 55 (bldA k ([] : Str) b) b)), (1000008, Own (tI .u8) 5 k ([] : Str).length)]) (out' := fun kx : Tok => [(8, (Bx 2 true 55 (bldA kx b1 b) b)), (1000008, Own (tI .u8) 5 kx b1.length)]) (strings_Builder_WriteString_spec _ _ _ _ _ hv41) rfl (fun _ => rfl)) rfl ⟨(.tmp rfl), (.tmp rfl), trivial⟩) (fun k1 => ?_)
          refine WL.ns ?_
          refine W.seq ?_
          refine W.sr ?_
          refine WL.mv rfl rfl ?_
          obtain ⟨v9, hv42, hm⟩ := bind_some hm
          refine WL.op rfl (Op1.slcLo hv42 Try.underlying22 Try.sizeOf9 (.tmp rfl) (.int (inR64.2 (by omega)))) ?_
          refine WL.op rfl (Op1.lenL Try.underlying22 (.tmp rfl)) ?_
          refine WL.op rfl (Op1.move (.int (inR64.2 (by omega)))) ?_
          refine WL.ns ?_
          refine W.block ?_
          obtain ⟨s43, hs44, hk45⟩ := bind_some hm
          clear hm
          refine W.loop (fun m (s : Int × List Str × List Str × ((Str) × Tok)) => m = s.2.2.1.length ∧ v9 = s.2.1 ++ s.2.2.1 ∧ s.1 = (s.2.1.length : Int) ∧ M.strings_Join_loop2 sep s.2.2.1 s.2.2.2.1 = some s43) (fun s => [(65, ((tI .i64).is s.1)), (1, (tS.is sep)), (8, (Bp b 0)), (63, ((tL tS).is v9)), (64, ((tI .i64).is (v9.length : Int)))]) (fun s => [(1000008, Own (tI .u8) 5 s.2.2.2.2 s.2.2.2.1.length), (8, (Bx 2 true 55 (bldA s.2.2.2.2 s.2.2.2.1 b) b))]) v9.length ((0 : Int), [], v9, (b1, k1)) ⟨rfl, rfl, rfl, hs44⟩ ⟨Ent.q rfl, Ent.q rfl, Ent.q rfl, Ent.q rfl, Ent.q rfl, trivial⟩ ⟨rfl, rfl, ⟨rfl, rfl, trivial⟩⟩ ?_
          rintro m ⟨i1, pre1, rest2, ⟨b2, k2⟩⟩ ⟨hn49, hxs46, hi47, hm⟩
          try dsimp only at hn49 hxs46 hi47 hm
          change W _ _ _ _ _ _ _ [(65, ((tI .i64).is i1)), (1, (tS.is sep)), (8, (Bp b 0)), (63, ((tL tS).is v9)), (64, ((tI .i64).is (v9.length : Int)))] [(1000008, Own (tI .u8) 5 k2 b2.length), (8, (Bx 2 true 55 (bldA k2 b2 b) b))]
          refine W.lenL (s := 63) (.tmp rfl) fun hlen48 => ?_
          refine W.sr ?_
          refine WL.op rfl (Op1.ltI (.tmp rfl) (.tmp rfl)) ?_
          refine WL.ns ?_
          refine W.seq ?_
          refine W.cond (.tmp rfl) (fun hc51 => ?_) (fun hc51 => ?_)
          · have hp52 := of_decide_eq_true hc51
            obtain ⟨e1, es1, hrest54⟩ := range_more hxs46 hi47 hp52
            subst hrest54
            rw [M.strings_Join_loop2.eq_2] at hm
            refine W.skip ?_
            refine WN.seq ?_
            refine W.seq ?_
            refine W.block ?_
            refine W.sr ?_
            refine WL.op rfl (Op1.idxPre hxs46 hi47 Try.underlying22 Try.sizeOf9 (.tmp rfl) (.tmp rfl)) ?_
            refine WL.op rfl (Op1.load ty9 (.tmp rfl)) ?_
            refine WL.gv rfl rfl ?_
            refine WL.nr ?_
            refine WL.mv rfl rfl ?_
            obtain ⟨b3, hv55, hm⟩ := bind_some hm
            refine WL.weakR (res' := [(8, (Bx 2 true 55 (bldA k2 b2 b) b)), (1000008, Own (tI .u8) 5 k2 b2.length)]) ⟨rfl, rfl, ⟨rfl, rfl, trivial⟩⟩ ?_
            refine WL.opR rfl (OpR.call (us := [8, 1000008]) (A := fun kx : Tok => Asn.any) Try.call44 (FSpecR.keys (rin' := [(8, (Bx 2 true 55 (bldA k2 b2 b) b)), (1000008, Own (tI .u8) 5 k2 b2.length)]) (out' := fun kx : Tok => [(8, (Bx 2 true 55 (bldA kx b3 b) b)), (1000008, Own (tI .u8) 5 kx b3.length)]) (strings_Builder_WriteString_spec _ _ _ _ _ hv55) rfl (fun _ => rfl)) rfl ⟨(.tmp rfl), (.tmp rfl), trivial⟩) (fun k3 => ?_)
            refine WL.nr1 ?_
            refine WL.mv rfl rfl ?_
            obtain ⟨b4, hv56, hm⟩ := bind_some hm
            refine WL.weakR (res' := [(8, (Bx 2 true 55 (bldA k3 b3 b) b)), (1000008, Own (tI .u8) 5 k3 b3.length)]) ⟨rfl, rfl, ⟨rfl, rfl, trivial⟩⟩ ?_
            refine WL.opR rfl (OpR.call (us := [8, 1000008]) (A := fun kx : Tok => Asn.any) Try.call44 (FSpecR.keys (rin' := [(8, (Bx 2 true 55 (bldA k3 b3 b) b)), (1000008, Own (tI .u8) 5 k3 b3.length)]) (out' := fun kx : Tok => [(8, (Bx 2 true 55 (bldA kx b4 b) b)), (1000008, Own (tI .u8) 5 kx b4.length)]) (strings_Builder_WriteString_spec _ _ _ _ _ hv56) rfl (fun _ => rfl)) rfl ⟨(.tmp rfl), (.tmp rfl), trivial⟩) (fun k4 => ?_)
            refine WL.nil ?_
            refine WN.block ?_
            refine WN.seq ?_
            refine W.region ?_
            refine WL.op rfl (Op1.addI (.tmp rfl) (.int (inR64.2 (by omega))) (range_inR hi47 hp52 hlen48)) ?_
            refine WL.mv rfl rfl ?_
            refine WL.nil ?_
            exact WN.again es1.length (i1 + 1, pre1 ++ [e1], es1, (b4, k4)) (range_lt hn49) ⟨rfl, range_step hxs46, range_idx hi47, hm⟩ ⟨Ent.q rfl, Ent.q rfl, Ent.q rfl, Ent.q rfl, Ent.q rfl, trivial⟩ ⟨rfl, rfl, ⟨rfl, rfl, trivial⟩⟩
          · have hrest54 := range_end hxs46 hi47 (of_decide_eq_false hc51)
            subst hrest54
            rw [M.strings_Join_loop2.eq_1] at hm
            refine W.exit rfl ?_
            have hr57 := Option.some.inj hm
            clear hm
            subst hr57
            have hm := hk45
            try dsimp only at hm
            refine WN.seq ?_
            refine W.sr ?_
            refine WL.weakR (res' := [(8, (Bx 2 true 55 (bldA k2 b2 b) b)), (1000008, Own (tI .u8) 5 k2 b2.length)]) ⟨rfl, rfl, ⟨rfl, rfl, trivial⟩⟩ ?_
            refine WL.opR rfl (OpR.call (us := [8, 1000008]) (A := fun kx : Unit => tS.is b2) Try.call45 (FSpecR.keys (rin' := [(8, (Bx 2 true 55 (bldA k2 b2 b) b)), (1000008, Own (tI .u8) 5 k2 b2.length)]) (out' := fun kx : Unit => []) (strings_Builder_String_spec _ _ _) rfl (fun _ => rfl)) rfl ⟨(.tmp rfl), trivial⟩) (fun _ => ?_)
            refine WL.gv rfl rfl ?_
            refine WL.ns ?_
            cases hm
            exact W.ret1 () rfl (.tmp rfl) trivial
      · have hm := hs7
        clear hs7
        refine W.sr ?_
        refine WL.mv rfl rfl ?_
        refine WL.op rfl (Op1.lenS Try.underlying9 (.tmp rfl)) ?_
        refine WL.op rfl (Op1.gtI (.tmp rfl) (.int (inR64.2 (by omega)))) ?_
        refine WL.ns ?_
        refine W.cond (.tmp rfl) (fun hc9 => ?_) (fun hc9 => ?_)
        · have hp10 := of_decide_eq_true hc9
          rw [if_pos hp10] at hm
          obtain ⟨s11, hs12, hk13⟩ := bind_some hm
          clear hm
          refine W.join (fun s : Unit => s = s11) (fun s => [(0, ((tL tS).is elems)), (1, (tS.is sep)), (5, ((tI .i64).is (0 : Int)))]) (fun s => []) ?_ ?_
          · rintro _ hj21
            try dsimp only at hj21
            subst hj21
            have hm := hk13
            clear hk13
            try dsimp only at hm
            change W _ _ _ _ _ _ _ [(0, ((tL tS).is elems)), (1, (tS.is sep)), (5, ((tI .i64).is (0 : Int)))] []
            refine W.region ?_
            refine WL.mv rfl rfl ?_
            refine WL.mv rfl rfl ?_
            refine WL.op rfl (Op1.lenS Try.underlying9 (.tmp rfl)) ?_
            refine WL.mv rfl rfl ?_
            refine WL.op rfl (Op1.lenL Try.underlying22 (.tmp rfl)) ?_
            obtain ⟨v3, hv18, hm⟩ := bind_some hm
            refine WL.op rfl (Op1.subC hv18 (.tmp rfl) (.int (inR64.2 (by omega)))) ?_
            obtain ⟨v4, hv19, hm⟩ := bind_some hm
            refine WL.op rfl (Op1.mulC hv19 (.tmp rfl) (.tmp rfl)) ?_
            obtain ⟨v5, hv20, hm⟩ := bind_some hm
            refine WL.op rfl (Op1.addC hv20 (.tmp rfl) (.tmp rfl)) ?_
            refine WL.gv rfl rfl ?_
            refine WL.nil ?_
            exact WN.meet v5 (Option.some.inj hm) ⟨Ent.q rfl, Ent.q rfl, Ent.q rfl, trivial⟩ trivial
          · have hm := hs12
            clear hs12
            refine W.sr ?_
            refine WL.mv rfl rfl ?_
            refine WL.op rfl (Op1.lenS Try.underlying9 (.tmp rfl)) ?_
            refine WL.mv rfl rfl ?_
            refine WL.op rfl (Op1.lenL Try.underlying22 (.tmp rfl)) ?_
            obtain ⟨v1, hv14, hm⟩ := bind_some hm
            refine WL.op rfl (Op1.subC hv14 (.tmp rfl) (.int (inR64.2 (by omega)))) ?_
            obtain ⟨v2, hv15, hm⟩ := bind_some hm
            refine WL.op rfl (Op1.quoC hv15 (.int (inR64.2 (by omega))) (.tmp rfl)) ?_
            refine WL.op rfl (Op1.geI (.tmp rfl) (.tmp rfl)) ?_
            refine WL.ns ?_
            refine W.cond (.tmp rfl) (fun hc16 => ?_) (fun hc16 => ?_)
            · have hp17 := of_decide_eq_true hc16
              rw [if_pos hp17] at hm
              cases hm
            · have hp17 := of_decide_eq_false hc16
              rw [if_neg hp17] at hm
              refine W.skip ?_
              exact WN.meet () (Option.some.inj hm) ⟨Ent.q rfl, Ent.q rfl, Ent.q rfl, trivial⟩ trivial
        · have hp10 := of_decide_eq_false hc9
          rw [if_neg hp10] at hm
          refine W.skip ?_
          exact WN.meet (0 : Int) (Option.some.inj hm) ⟨Ent.q rfl, Ent.q rfl, Ent.q rfl, trivial⟩ trivial

theorem wordseq_Join_spec (n : Nat) (l : List Str) (r : Str) (hm : M.wordseq_Join n l = some r) : FSpec Try.prog 24 [((tL tS).is l)] (tS.is r) := by
  unfold M.wordseq_Join at hm
  refine FSpec.of Try.func24 rfl rfl rfl (fun g0 => ?_)
  refine W.sr ?_
  refine WL.op rfl (Op1.assign (.str rfl (by decide))) ?_
  refine WL.ns ?_
  refine W.seq ?_
  refine W.sr ?_
  refine WL.mv rfl rfl ?_
  obtain ⟨valid, hv1, hm⟩ := bind_some hm
  refine WL.op rfl (Op1.call Try.call23 (wordseq_Valid_spec _ _ _ hv1) ⟨(.tmp rfl), trivial⟩) ?_
  refine WL.op rfl (Op1.notB (.tmp rfl)) ?_
  refine WL.ns ?_
  refine W.cond (.tmp rfl) (fun hc2 => ?_) (fun hc2 => ?_)
  · have hp3 := not_pos hc2
    rw [if_pos hp3] at hm
    refine W.sr ?_
    refine WL.op rfl (Op1.assign (.str rfl (by decide))) ?_
    refine WL.ns ?_
    cases hm
    exact W.ret1 () rfl (.tmp rfl) trivial
  · have hp3 := not_neg hc2
    rw [if_neg hp3] at hm
    refine W.skip ?_
    refine WN.seq ?_
    refine W.sr ?_
    refine WL.mv rfl rfl ?_
    obtain ⟨join, hv4, hm⟩ := bind_some hm
    refine WL.op rfl (Op1.call Try.call38 (strings_Join_spec _ _ _ hv4) ⟨(.tmp rfl), (.str rfl (by decide)), trivial⟩) ?_
    refine WL.gv rfl rfl ?_
    refine WL.ns ?_
    cases hm
    exact W.ret1 () rfl (.tmp rfl) trivial

theorem law04_WordseqValidates_spec (n : Nat) (l : List Str) (r : Bool) (hm : M.law04_WordseqValidates n l = some r) : FSpec Try.prog 8 [((tL tS).is l)] (tB.is r) := by
  unfold M.law04_WordseqValidates at hm
  refine FSpec.of Try.func8 rfl rfl rfl (fun g0 => ?_)
  refine W.sr ?_
  refine WL.op rfl (Op1.assign .bool) ?_
  refine WL.ns ?_
  refine W.seq ?_
  refine W.sr ?_
  refine WL.mv rfl rfl ?_
  refine WL.op rfl (Op1.buildSlice (n := 1) (ys := [(0, l)]) (z := ([] : List Str)) (xs := [l]) Try.underlying38 el22 ze22 ⟨rfl, (.tmp rfl), trivial⟩ (by simp) (by decide) rfl) ?_
  obtain ⟨long, hv1, hm⟩ := bind_some hm
  refine WL.op rfl (Op1.call Try.call9 (law04_long_spec _ _ hv1) ⟨(.tmp rfl), trivial⟩) ?_
  refine WL.ns ?_
  refine W.cond (.tmp rfl) (fun hc2 => ?_) (fun hc2 => ?_)
  · have hp3 := hc2
    rw [if_pos hp3] at hm
    refine W.sr ?_
    obtain ⟨awake, hv4, hm⟩ := bind_some hm
    refine WL.op rfl (Op1.call Try.call10 (law04_awake_spec _ _ hv4) trivial) ?_
    refine WL.gv rfl rfl ?_
    refine WL.ns ?_
    cases hm
    exact W.ret1 () rfl (.tmp rfl) trivial
  · have hp3 := ne_of_false hc2
    rw [if_neg hp3] at hm
    refine W.skip ?_
    refine WN.seq ?_
    refine W.sr ?_
    refine WL.op rfl (Op1.assign (.str rfl (by decide))) ?_
    refine WL.ns ?_
    obtain ⟨s5, hs6, hk7⟩ := bind_some hm
    clear hm
    refine W.join (fun s : Str => s = s5) (fun s => [(3, (tS.is s)), (0, ((tL tS).is l))]) (fun s => []) ?_ ?_
    · rintro want hj20
      try dsimp only at hj20
      subst hj20
      have hm := hk7
      clear hk7
      try dsimp only at hm
      change W _ _ _ _ _ _ _ [(3, (tS.is want)), (0, ((tL tS).is l))] []
      refine W.sr ?_
      refine WL.mv rfl rfl ?_
      obtain ⟨valid, hv12, hm⟩ := bind_some hm
      refine WL.op rfl (Op1.call Try.call23 (wordseq_Valid_spec _ _ _ hv12) ⟨(.tmp rfl), trivial⟩) ?_
      refine WL.mv rfl rfl ?_
      obtain ⟨may1, hv13, hm⟩ := bind_some hm
      refine WL.op rfl (Op1.call Try.call21 (r04_May_spec _ _ _ hv13) ⟨(.tmp rfl), trivial⟩) ?_
      refine WL.op rfl (Op1.eqB Try.underlying4 (.tmp rfl) (.tmp rfl)) ?_
      refine WL.mv rfl rfl ?_
      rcases bcases (valid == may1) with hb14 | hb14
      · have hp15 := hb14
        rw [if_pos hp15] at hm
        refine WL.run rfl rfl rfl rfl hb14 rfl rfl (Op1.move (.tmp rfl)) ?_
        obtain ⟨join, hv16, hm⟩ := bind_some hm
        refine WL.run rfl rfl rfl rfl hb14 rfl rfl (Op1.call Try.call24 (wordseq_Join_spec _ _ _ hv16) ⟨(.tmp rfl), trivial⟩) ?_
        refine WL.run rfl rfl rfl rfl hb14 rfl rfl (Op1.move (.tmp rfl)) ?_
        refine WL.run rfl rfl rfl rfl hb14 rfl rfl (Op1.eqS (.tmp rfl) (.tmp rfl)) ?_
        refine WL.op rfl (Op1.pickT (.tmp rfl) hb14 (.tmp rfl)) ?_
        refine WL.mv rfl rfl ?_
        rcases bcases (join == want) with hb17 | hb17
        · have hp18 := hb17
          rw [if_pos hp18] at hm
          obtain ⟨awake1, hv19, hm⟩ := bind_some hm
          refine WL.run rfl rfl rfl rfl hb17 rfl rfl (Op1.call Try.call10 (law04_awake_spec _ _ hv19) trivial) ?_
          refine WL.op rfl (Op1.pickT (.tmp rfl) hb17 (.tmp rfl)) ?_
          refine WL.gv rfl rfl ?_
          refine WL.ns ?_
          cases hm
          exact W.ret1 () rfl (.tmp rfl) trivial
        · have hp18 := ne_of_false hb17
          rw [if_neg hp18] at hm
          refine WL.pass rfl rfl rfl rfl hb17 rfl rfl ?_
          refine WL.op rfl (Op1.pickF (.tmp rfl) hb17 .bool) ?_
          refine WL.gv rfl rfl ?_
          refine WL.ns ?_
          cases hm
          exact W.ret1 () rfl (.tmp rfl) trivial
      · have hp15 := ne_of_false hb14
        rw [if_neg hp15] at hm
        refine WL.pass rfl rfl rfl rfl hb14 rfl rfl ?_
        refine WL.pass rfl rfl rfl rfl hb14 rfl rfl ?_
        refine WL.pass rfl rfl rfl rfl hb14 rfl rfl ?_
        refine WL.pass rfl rfl rfl rfl hb14 rfl rfl ?_
        refine WL.op rfl (Op1.pickF (.tmp rfl) hb14 .bool) ?_
        refine WL.mv rfl rfl ?_
        refine WL.pass rfl rfl rfl rfl rfl rfl rfl ?_
        refine WL.op rfl (Op1.pickF (.tmp rfl) rfl .bool) ?_
        refine WL.gv rfl rfl ?_
        refine WL.ns ?_
        cases hm
        exact W.ret1 () rfl (.tmp rfl) trivial
    · have hm := hs6
      clear hs6
      refine W.sr ?_
      refine WL.mv rfl rfl ?_
      obtain ⟨may, hv8, hm⟩ := bind_some hm
      refine WL.op rfl (Op1.call Try.call21 (r04_May_spec _ _ _ hv8) ⟨(.tmp rfl), trivial⟩) ?_
      refine WL.ns ?_
      refine W.cond (.tmp rfl) (fun hc9 => ?_) (fun hc9 => ?_)
      · have hp10 := hc9
        rw [if_pos hp10] at hm
        refine W.region ?_
        refine WL.mv rfl rfl ?_
        obtain ⟨text, hv11, hm⟩ := bind_some hm
        refine WL.op rfl (Op1.call Try.call22 (r04_Text_spec _ _ _ hv11) ⟨(.tmp rfl), trivial⟩) ?_
        refine WL.gv rfl rfl ?_
        refine WL.nil ?_
        exact WN.meet text (Option.some.inj hm) ⟨Ent.q rfl, Ent.q rfl, trivial⟩ trivial
      · have hp10 := ne_of_false hc9
        rw [if_neg hp10] at hm
        refine W.skip ?_
        exact WN.meet ([] : Str) (Option.some.inj hm) ⟨Ent.q rfl, Ent.q rfl, trivial⟩ trivial

end Go.Proofs.Ytgicfjjhchohaaa
