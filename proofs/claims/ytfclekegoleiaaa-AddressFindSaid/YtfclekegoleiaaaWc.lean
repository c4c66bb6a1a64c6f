/-
  The code does what the models say: written by program.
-/
import Derived.Test.YtfclekegoleiaaaWb
set_option linter.unusedVariables false
set_option linter.unusedSimpArgs false
namespace Go.Proofs.Ytfclekegoleiaaa
open Go Go.Dec

set_option maxRecDepth 100000
set_option maxHeartbeats 4000000
theorem r07_Units_spec (n : Nat) (u : api_Unit) (p : List api_Step) (r : (List api_Unit)) (hm : M.r07_Units n u p = some r) : FSpec Try.prog 34 [(tapi_Unit.is u), ((tL tapi_Step).is p)] ((tL tapi_Unit).is r) := by
  unfold M.r07_Units at hm
  refine FSpec.of Try.func34 rfl rfl rfl (fun g0 => ?_)
  refine W.sr ?_
  refine WL.op rfl (Op1.box (.tmp rfl)) ?_
  refine WL.op rfl (Op1.assign (.nil (t := tapi_Unit))) ?_
  refine WL.ns ?_
  refine W.seq ?_
  refine W.sr ?_
  refine WL.mv rfl rfl ?_
  obtain ⟨may, hv1, hm⟩ := bind_some hm
  refine WL.op rfl (Op1.call Try.call54 (r07_May_spec _ _ _ hv1) ⟨(.tmp rfl), trivial⟩) ?_
  refine WL.op rfl (Op1.notB (.tmp rfl)) ?_
  refine WL.ns ?_
  refine W.cond (.tmp rfl) (fun hc2 => ?_) (fun hc2 => ?_)
  · have hp3 := not_pos hc2
    rw [if_pos hp3] at hm
    refine W.sr ?_
    refine WL.op rfl (Op1.assign (.nil (t := tapi_Unit))) ?_
    refine WL.ns ?_
    cases hm
    exact W.ret1 () rfl (.tmp rfl) trivial
  · have hp3 := not_neg hc2
    rw [if_neg hp3] at hm
    refine W.skip ?_
    refine WN.seq ?_
    refine W.seq ?_
    refine W.sr ?_
    refine WL.mv rfl rfl ?_
    refine WL.op rfl (Op1.lenL Try.underlying28 (.tmp rfl)) ?_
    refine WL.op rfl (Op1.eqI (.tmp rfl) (.int (inR64.2 (by omega)))) ?_
    refine WL.ns ?_
    refine W.cond (.tmp rfl) (fun hc4 => ?_) (fun hc4 => ?_)
    · have hp5 := of_decide_eq_true hc4
      rw [if_pos hp5] at hm
      refine W.sr ?_
      refine WL.op rfl (Op1.load ty27 (.tmp rfl)) ?_
      refine WL.op rfl (Op1.buildSlice (n := 1) (ys := [(0, u)]) (z := zapi_Unit) (xs := [u]) Try.underlying25 el27 ze27 ⟨rfl, (.tmp rfl), trivial⟩ (by simp) (by decide) rfl) ?_
      refine WL.gv rfl rfl ?_
      refine WL.ns ?_
      cases hm
      exact W.ret1 () rfl (.tmp rfl) trivial
    · have hp5 := of_decide_eq_false hc4
      rw [if_neg hp5] at hm
      refine W.skip ?_
      refine WN.seq ?_
      refine W.sr ?_
      refine WL.opR rfl (OpR.buildSlice (n := 0) (ys := []) (z := zapi_Unit) (xs := ([] : List api_Unit)) 20 Try.underlying25 el27 ze27 trivial (by simp) (by decide) rfl) (fun k => ?_)
      refine WL.gv rfl rfl ?_
      refine WL.ns ?_
      obtain ⟨s6, hs7, hk8⟩ := bind_some hm
      clear hm
      refine W.join (fun s : ((List api_Unit)) × Tok => s.1 = s6) (fun s => [(5, (tO tapi_Unit s.2 s.1)), (1, ((tL tapi_Step).is p))]) (fun s => [(20, Own tapi_Unit 27 s.2 s.1.length)]) ?_ ?_
      · rintro ⟨now, k1⟩ hj66
        try dsimp only at hj66
        subst hj66
        have hm := hk8
        clear hk8
        try dsimp only at hm
        change W _ _ _ _ _ _ _ [(5, (tO tapi_Unit k1 now)), (1, ((tL tapi_Step).is p))] [(20, Own tapi_Unit 27 k1 now.length)]
        refine W.seq ?_
        refine W.sr ?_
        refine WL.op rfl (Op1.assign (.int (inR64.2 (by omega)))) ?_
        refine WL.ns ?_
        refine W.block ?_
        obtain ⟨s31, hs32, hk33⟩ := bind_some hm
        clear hm
        refine W.loop (fun m (s : (List api_Unit) × Int) => M.r07_Units_loop2 p m s.1 s.2 = some s31) (fun s => [(5, ((tL tapi_Unit).is s.1)), (8, ((tI .i64).is s.2)), (1, ((tL tapi_Step).is p))]) (fun s => []) _ (now, (1 : Int)) hs32 ⟨Ent.o rfl, Ent.q rfl, Ent.q rfl, trivial⟩ trivial ?_
        rintro n34 ⟨now2, k5⟩ hm
        try dsimp only at hm
        change W _ _ _ _ _ _ _ [(5, ((tL tapi_Unit).is now2)), (8, ((tI .i64).is k5)), (1, ((tL tapi_Step).is p))] []
        cases n34 with
        | zero => rw [M.r07_Units_loop2.eq_1] at hm; cases hm
        | succ n34 =>
          rw [M.r07_Units_loop2.eq_2] at hm
          refine W.seq ?_
          refine W.sr ?_
          refine WL.mv rfl rfl ?_
          refine WL.mv rfl rfl ?_
          refine WL.op rfl (Op1.lenL Try.underlying28 (.tmp rfl)) ?_
          refine WL.op rfl (Op1.ltI (.tmp rfl) (.tmp rfl)) ?_
          refine WL.ns ?_
          refine W.cond (.tmp rfl) (fun hc35 => ?_) (fun hc35 => ?_)
          · have hp36 := of_decide_eq_true hc35
            rw [if_pos hp36] at hm
            refine W.skip ?_
            refine WN.seq ?_
            refine W.seq ?_
            refine W.block ?_
            refine W.sr ?_
            refine WL.opR rfl (OpR.buildSlice (n := 0) (ys := []) (z := zapi_Unit) (xs := ([] : List api_Unit)) 58 Try.underlying25 el27 ze27 trivial (by simp) (by decide) rfl) (fun k6 => ?_)
            refine WL.gv rfl rfl ?_
            refine WL.ns ?_
            refine W.seq ?_
            refine W.sr ?_
            refine WL.op rfl (Op1.assign (.int (inR64.2 (by omega)))) ?_
            refine WL.ns ?_
            refine W.block ?_
            obtain ⟨s37, hs38, hk39⟩ := bind_some hm
            clear hm
            refine W.loop (fun m (s : ((List api_Unit) × Int) × Tok) => M.r07_Units_loop3 p now2 k5 m s.1.1 s.1.2 = some s37) (fun s => [(9, (tO tapi_Unit s.2 s.1.1)), (10, ((tI .i64).is s.1.2)), (1, ((tL tapi_Step).is p)), (5, ((tL tapi_Unit).is now2)), (8, ((tI .i64).is k5))]) (fun s => [(58, Own tapi_Unit 27 s.2 s.1.1.length)]) _ ((([] : List api_Unit), (0 : Int)), k6) hs38 ⟨Ent.q rfl, Ent.q rfl, Ent.q rfl, Ent.q rfl, Ent.q rfl, trivial⟩ ⟨rfl, rfl, trivial⟩ ?_
            rintro n40 ⟨⟨next, i1⟩, k7⟩ hm
            try dsimp only at hm
            change W _ _ _ _ _ _ _ [(9, (tO tapi_Unit k7 next)), (10, ((tI .i64).is i1)), (1, ((tL tapi_Step).is p)), (5, ((tL tapi_Unit).is now2)), (8, ((tI .i64).is k5))] [(58, Own tapi_Unit 27 k7 next.length)]
            cases n40 with
            | zero => rw [M.r07_Units_loop3.eq_1] at hm; cases hm
            | succ n40 =>
              rw [M.r07_Units_loop3.eq_2] at hm
              refine W.seq ?_
              refine W.sr ?_
              refine WL.mv rfl rfl ?_
              refine WL.mv rfl rfl ?_
              refine WL.op rfl (Op1.lenL Try.underlying25 (.tmp rfl)) ?_
              refine WL.op rfl (Op1.ltI (.tmp rfl) (.tmp rfl)) ?_
              refine WL.ns ?_
              refine W.cond (.tmp rfl) (fun hc41 => ?_) (fun hc41 => ?_)
              · have hp42 := of_decide_eq_true hc41
                rw [if_pos hp42] at hm
                refine W.skip ?_
                refine WN.seq ?_
                refine W.seq ?_
                refine W.block ?_
                refine W.sr ?_
                refine WL.op rfl (Op1.assign (.int (inR64.2 (by omega)))) ?_
                refine WL.ns ?_
                refine W.block ?_
                obtain ⟨s43, hs44, hk45⟩ := bind_some hm
                clear hm
                refine W.loop (fun m (s : ((List api_Unit) × Int) × Tok) => M.r07_Units_loop4 p now2 k5 i1 m s.1.1 s.1.2 = some s43) (fun s => [(9, (tO tapi_Unit s.2 s.1.1)), (11, ((tI .i64).is s.1.2)), (1, ((tL tapi_Step).is p)), (5, ((tL tapi_Unit).is now2)), (8, ((tI .i64).is k5)), (10, ((tI .i64).is i1))]) (fun s => [(58, Own tapi_Unit 27 s.2 s.1.1.length)]) _ ((next, (0 : Int)), k7) hs44 ⟨Ent.q rfl, Ent.q rfl, Ent.q rfl, Ent.q rfl, Ent.q rfl, Ent.q rfl, trivial⟩ ⟨rfl, rfl, trivial⟩ ?_
                rintro n46 ⟨⟨next1, j⟩, k8⟩ hm
                try dsimp only at hm
                change W _ _ _ _ _ _ _ [(9, (tO tapi_Unit k8 next1)), (11, ((tI .i64).is j)), (1, ((tL tapi_Step).is p)), (5, ((tL tapi_Unit).is now2)), (8, ((tI .i64).is k5)), (10, ((tI .i64).is i1))] [(58, Own tapi_Unit 27 k8 next1.length)]
                cases n46 with
                | zero => rw [M.r07_Units_loop4.eq_1] at hm; cases hm
                | succ n46 =>
                  rw [M.r07_Units_loop4.eq_2] at hm
                  refine W.seq ?_
                  refine W.sr ?_
                  refine WL.mv rfl rfl ?_
                  refine WL.mv rfl rfl ?_
                  refine WL.mv rfl rfl ?_
                  obtain ⟨v4, hv47, hm⟩ := bind_some hm
                  refine WL.op rfl (Op1.idx hv47 Try.underlying25 Try.sizeOf27 (.tmp rfl) (.tmp rfl)) ?_
                  refine WL.op rfl (Op1.fieldAddr Try.underlying27 rfl (fun w => ⟨0, Try.sizeOf25 w⟩) fapi_Unit_5 (.tmp rfl)) ?_
                  refine WL.op rfl (Op1.load ty25 (.tmp rfl)) ?_
                  refine WL.op rfl (Op1.lenL Try.underlying25 (.tmp rfl)) ?_
                  refine WL.op rfl (Op1.ltI (.tmp rfl) (.tmp rfl)) ?_
                  refine WL.ns ?_
                  refine W.cond (.tmp rfl) (fun hc48 => ?_) (fun hc48 => ?_)
                  · have hp49 := of_decide_eq_true hc48
                    rw [if_pos hp49] at hm
                    refine W.skip ?_
                    refine WN.seq ?_
                    refine W.seq ?_
                    refine W.block ?_
                    refine W.seq ?_
                    obtain ⟨v5, hv50, hm⟩ := bind_some hm
                    obtain ⟨v6, hv51, hm⟩ := bind_some hm
                    obtain ⟨v7, hv52, hm⟩ := bind_some hm
                    obtain ⟨at0_1, hv53, hm⟩ := bind_some hm
                    refine W.draw [.c ((tL tapi_Unit).is now2), .c ((tI .i64).is i1), .c (tapi_Unit.ptr v5), .c ((tL tapi_Unit).ptr v5.Kids), .c ((tL tapi_Unit).is v5.Kids), .c ((tI .i64).is j), .c (tapi_Unit.ptr v6), .c (tapi_Unit.is v6), .c ((tL tapi_Step).is p), .c ((tI .i64).is k5), .c (tapi_Step.ptr v7), .c (tapi_Step.is v7), .c (tB.is at0_1)] [([], [5]), ([], [10]), ([0, 1], []), ([2], []), ([3], []), ([], [11]), ([4, 5], []), ([6], []), ([], [1]), ([], [8]), ([8, 9], []), ([10], []), ([7, 11], [])] Try.mixed rfl rfl rfl rfl ⟨.inr (Op1.move (.tmp rfl)), .inr (Op1.move (.tmp rfl)), .inr (Op1.idx hv50 Try.underlying25 Try.sizeOf27 (.tmp rfl) (.tmp rfl)), .inr (Op1.fieldAddr Try.underlying27 rfl (fun w => ⟨0, Try.sizeOf25 w⟩) fapi_Unit_5 (.tmp rfl)), .inr (Op1.load ty25 (.tmp rfl)), .inr (Op1.move (.tmp rfl)), .inr (Op1.idx hv51 Try.underlying25 Try.sizeOf27 (.tmp rfl) (.tmp rfl)), .inr (Op1.load ty27 (.tmp rfl)), .inr (Op1.move (.tmp rfl)), .inr (Op1.move (.tmp rfl)), .inr (Op1.idx hv52 Try.underlying28 Try.sizeOf63 (.tmp rfl) (.tmp rfl)), .inr (Op1.load ty63 (.tmp rfl)), .inr (Op1.call Try.call57 (r07_at_spec _ _ _ hv53) ⟨(.tmp rfl), (.tmp rfl), trivial⟩), trivial⟩ ?_
                    refine WN.seq ?_
                    refine W.cond (.tmp rfl) (fun hc54 => ?_) (fun hc54 => ?_)
                    · have hp55 := hc54
                      rw [if_pos hp55] at hm
                      refine W.region ?_
                      refine WL.mv rfl rfl ?_
                      refine WL.mv rfl rfl ?_
                      refine WL.mv rfl rfl ?_
                      obtain ⟨v8, hv56, hm⟩ := bind_some hm
                      refine WL.op rfl (Op1.idx hv56 Try.underlying25 Try.sizeOf27 (.tmp rfl) (.tmp rfl)) ?_
                      refine WL.op rfl (Op1.fieldAddr Try.underlying27 rfl (fun w => ⟨0, Try.sizeOf25 w⟩) fapi_Unit_5 (.tmp rfl)) ?_
                      refine WL.op rfl (Op1.load ty25 (.tmp rfl)) ?_
                      refine WL.mv rfl rfl ?_
                      obtain ⟨v9, hv57, hm⟩ := bind_some hm
                      refine WL.op rfl (Op1.idx hv57 Try.underlying25 Try.sizeOf27 (.tmp rfl) (.tmp rfl)) ?_
                      refine WL.op rfl (Op1.load ty27 (.tmp rfl)) ?_
                      refine WL.op rfl (Op1.buildSlice (n := 1) (ys := [(0, v9)]) (z := zapi_Unit) (xs := [v9]) Try.underlying25 el27 ze27 ⟨rfl, (.tmp rfl), trivial⟩ (by simp) (by decide) rfl) ?_
                      obtain ⟨out2, hv58, hm⟩ := bind_some hm
                      refine WL.opR rfl (OpR.appC (key := 58) hv58 Try.underlying25 el27 (.tmp rfl) (.tmp rfl) rfl) (fun k9 => ?_)
                      refine WL.gv rfl rfl ?_
                      refine WL.nil ?_
                      refine WN.block ?_
                      refine WN.seq ?_
                      refine W.region ?_
                      refine WL.mv rfl rfl ?_
                      refine WL.lenL (s := 70) (.tmp rfl) fun hl59 => ?_
                      refine WL.op rfl (Op1.addI1 (.tmp rfl) (.int (inR64.2 (by omega))) hp49 hl59) ?_
                      refine WL.gv rfl rfl ?_
                      refine WL.nil ?_
                      exact WN.again n46 ((out2, j + 1), k9) (Nat.lt_succ_self n46) hm ⟨Ent.q rfl, Ent.q rfl, Ent.q rfl, Ent.q rfl, Ent.q rfl, Ent.q rfl, trivial⟩ ⟨rfl, rfl, trivial⟩
                    · have hp55 := ne_of_false hc54
                      rw [if_neg hp55] at hm
                      refine W.skip ?_
                      refine WN.block ?_
                      refine WN.seq ?_
                      refine W.region ?_
                      refine WL.mv rfl rfl ?_
                      refine WL.lenL (s := 70) (.tmp rfl) fun hl60 => ?_
                      refine WL.op rfl (Op1.addI1 (.tmp rfl) (.int (inR64.2 (by omega))) hp49 hl60) ?_
                      refine WL.gv rfl rfl ?_
                      refine WL.nil ?_
                      exact WN.again n46 ((next1, j + 1), k8) (Nat.lt_succ_self n46) hm ⟨Ent.q rfl, Ent.q rfl, Ent.q rfl, Ent.q rfl, Ent.q rfl, Ent.q rfl, trivial⟩ ⟨rfl, rfl, trivial⟩
                  · have hp49 := of_decide_eq_false hc48
                    rw [if_neg hp49] at hm
                    refine W.exit rfl ?_
                    have hr61 := Option.some.inj hm
                    clear hm
                    subst hr61
                    have hm := hk45
                    try dsimp only at hm
                    refine WN.block ?_
                    refine WN.seq ?_
                    refine W.region ?_
                    refine WL.mv rfl rfl ?_
                    obtain ⟨v10, hv62, hm⟩ := bind_some hm
                    refine WL.op rfl (Op1.addC hv62 (.tmp rfl) (.int (inR64.2 (by omega)))) ?_
                    refine WL.gv rfl rfl ?_
                    refine WL.nil ?_
                    exact WN.again n40 ((next1, v10), k8) (Nat.lt_succ_self n40) hm ⟨Ent.q rfl, Ent.q rfl, Ent.q rfl, Ent.q rfl, Ent.q rfl, trivial⟩ ⟨rfl, rfl, trivial⟩
              · have hp42 := of_decide_eq_false hc41
                rw [if_neg hp42] at hm
                refine W.exit rfl ?_
                have hr63 := Option.some.inj hm
                clear hm
                subst hr63
                have hm := hk39
                try dsimp only at hm
                refine WN.seq ?_
                refine W.region ?_
                refine WL.mv rfl rfl ?_
                refine WL.gv rfl rfl ?_
                refine WL.nil ?_
                refine WN.block ?_
                refine WN.seq ?_
                refine W.region ?_
                refine WL.mv rfl rfl ?_
                obtain ⟨v11, hv64, hm⟩ := bind_some hm
                refine WL.op rfl (Op1.addC hv64 (.tmp rfl) (.int (inR64.2 (by omega)))) ?_
                refine WL.gv rfl rfl ?_
                refine WL.nil ?_
                exact WN.again n34 (next, v11) (Nat.lt_succ_self n34) hm ⟨Ent.o rfl, Ent.q rfl, Ent.q rfl, trivial⟩ trivial
          · have hp36 := of_decide_eq_false hc35
            rw [if_neg hp36] at hm
            refine W.exit rfl ?_
            have hr65 := Option.some.inj hm
            clear hm
            subst hr65
            have hm := hk33
            try dsimp only at hm
            refine WN.seq ?_
            refine W.sr ?_
            refine WL.mv rfl rfl ?_
            refine WL.gv rfl rfl ?_
            refine WL.ns ?_
            cases hm
            exact W.ret1 () rfl (.tmp rfl) trivial
      · have hm := hs7
        clear hs7
        refine W.sr ?_
        refine WL.mv rfl rfl ?_
        obtain ⟨v, hv9, hm⟩ := bind_some hm
        refine WL.op rfl (Op1.idx hv9 Try.underlying28 Try.sizeOf63 (.tmp rfl) (.int (inR64.2 (by omega)))) ?_
        refine WL.op rfl (Op1.load ty63 (.tmp rfl)) ?_
        obtain ⟨book, hv10, hm⟩ := bind_some hm
        refine WL.op rfl (Op1.call Try.call55 (r07_book_spec _ _ hv10) ⟨(.tmp rfl), trivial⟩) ?_
        refine WL.ns ?_
        refine W.cond (.tmp rfl) (fun hc11 => ?_) (fun hc11 => ?_)
        · have hp12 := hc11
          rw [if_pos hp12] at hm
          refine W.region ?_
          refine WL.mv rfl rfl ?_
          refine WL.op rfl (Op1.load ty27 (.tmp rfl)) ?_
          refine WL.op rfl (Op1.buildSlice (n := 1) (ys := [(0, u)]) (z := zapi_Unit) (xs := [u]) Try.underlying25 el27 ze27 ⟨rfl, (.tmp rfl), trivial⟩ (by simp) (by decide) rfl) ?_
          obtain ⟨out, hv13, hm⟩ := bind_some hm
          refine WL.opR rfl (OpR.appC (key := 20) hv13 Try.underlying25 el27 (.tmp rfl) (.tmp rfl) rfl) (fun k2 => ?_)
          refine WL.gv rfl rfl ?_
          refine WL.nil ?_
          exact WN.meet (out, k2) (Option.some.inj hm) ⟨Ent.q rfl, Ent.q rfl, trivial⟩ ⟨rfl, rfl, trivial⟩
        · have hp12 := ne_of_false hc11
          rw [if_neg hp12] at hm
          refine W.sr ?_
          refine WL.op rfl (Op1.load ty27 (.tmp rfl)) ?_
          obtain ⟨every, hv14, hm⟩ := bind_some hm
          refine WL.op rfl (Op1.call Try.call56 (r07_Every_spec _ _ _ hv14) ⟨(.tmp rfl), trivial⟩) ?_
          refine WL.gv rfl rfl ?_
          refine WL.nr ?_
          refine WL.op rfl (Op1.assign (.int (inR64.2 (by omega)))) ?_
          refine WL.ns ?_
          refine W.block ?_
          obtain ⟨s15, hs16, hk17⟩ := bind_some hm
          clear hm
          refine W.loop (fun m (s : ((List api_Unit) × Int) × Tok) => M.r07_Units_loop1 p every m s.1.1 s.1.2 = some s15) (fun s => [(5, (tO tapi_Unit s.2 s.1.1)), (7, ((tI .i64).is s.1.2)), (1, ((tL tapi_Step).is p)), (6, ((tL tapi_Unit).is every))]) (fun s => [(20, Own tapi_Unit 27 s.2 s.1.1.length)]) _ ((([] : List api_Unit), (0 : Int)), k) hs16 ⟨Ent.q rfl, Ent.q rfl, Ent.q rfl, Ent.q rfl, trivial⟩ ⟨rfl, rfl, trivial⟩ ?_
          rintro n18 ⟨⟨now1, i⟩, k3⟩ hm
          try dsimp only at hm
          change W _ _ _ _ _ _ _ [(5, (tO tapi_Unit k3 now1)), (7, ((tI .i64).is i)), (1, ((tL tapi_Step).is p)), (6, ((tL tapi_Unit).is every))] [(20, Own tapi_Unit 27 k3 now1.length)]
          cases n18 with
          | zero => rw [M.r07_Units_loop1.eq_1] at hm; cases hm
          | succ n18 =>
            rw [M.r07_Units_loop1.eq_2] at hm
            refine W.seq ?_
            refine W.sr ?_
            refine WL.mv rfl rfl ?_
            refine WL.mv rfl rfl ?_
            refine WL.op rfl (Op1.lenL Try.underlying25 (.tmp rfl)) ?_
            refine WL.op rfl (Op1.ltI (.tmp rfl) (.tmp rfl)) ?_
            refine WL.ns ?_
            refine W.cond (.tmp rfl) (fun hc19 => ?_) (fun hc19 => ?_)
            · have hp20 := of_decide_eq_true hc19
              rw [if_pos hp20] at hm
              refine W.skip ?_
              refine WN.seq ?_
              refine W.seq ?_
              refine W.block ?_
              refine W.seq ?_
              obtain ⟨v1, hv21, hm⟩ := bind_some hm
              obtain ⟨v2, hv22, hm⟩ := bind_some hm
              obtain ⟨at0_, hv23, hm⟩ := bind_some hm
              refine W.draw [.c ((tL tapi_Unit).is every), .c ((tI .i64).is i), .c (tapi_Unit.ptr v1), .c (tapi_Unit.is v1), .c ((tL tapi_Step).is p), .c (tapi_Step.ptr v2), .c (tapi_Step.is v2), .c (tB.is at0_)] [([], [6]), ([], [7]), ([0, 1], []), ([2], []), ([], [1]), ([4], []), ([5], []), ([3, 6], [])] Try.mixed rfl rfl rfl rfl ⟨.inr (Op1.move (.tmp rfl)), .inr (Op1.move (.tmp rfl)), .inr (Op1.idx hv21 Try.underlying25 Try.sizeOf27 (.tmp rfl) (.tmp rfl)), .inr (Op1.load ty27 (.tmp rfl)), .inr (Op1.move (.tmp rfl)), .inr (Op1.idx hv22 Try.underlying28 Try.sizeOf63 (.tmp rfl) (.int (inR64.2 (by omega)))), .inr (Op1.load ty63 (.tmp rfl)), .inr (Op1.call Try.call57 (r07_at_spec _ _ _ hv23) ⟨(.tmp rfl), (.tmp rfl), trivial⟩), trivial⟩ ?_
              refine WN.seq ?_
              refine W.cond (.tmp rfl) (fun hc24 => ?_) (fun hc24 => ?_)
              · have hp25 := hc24
                rw [if_pos hp25] at hm
                refine W.region ?_
                refine WL.mv rfl rfl ?_
                refine WL.mv rfl rfl ?_
                refine WL.mv rfl rfl ?_
                obtain ⟨v3, hv26, hm⟩ := bind_some hm
                refine WL.op rfl (Op1.idx hv26 Try.underlying25 Try.sizeOf27 (.tmp rfl) (.tmp rfl)) ?_
                refine WL.op rfl (Op1.load ty27 (.tmp rfl)) ?_
                refine WL.op rfl (Op1.buildSlice (n := 1) (ys := [(0, v3)]) (z := zapi_Unit) (xs := [v3]) Try.underlying25 el27 ze27 ⟨rfl, (.tmp rfl), trivial⟩ (by simp) (by decide) rfl) ?_
                obtain ⟨out1, hv27, hm⟩ := bind_some hm
                refine WL.opR rfl (OpR.appC (key := 20) hv27 Try.underlying25 el27 (.tmp rfl) (.tmp rfl) rfl) (fun k4 => ?_)
                refine WL.gv rfl rfl ?_
                refine WL.nil ?_
                refine WN.block ?_
                refine WN.seq ?_
                refine W.region ?_
                refine WL.mv rfl rfl ?_
                refine WL.lenL (s := 6) (.tmp rfl) fun hl28 => ?_
                refine WL.op rfl (Op1.addI1 (.tmp rfl) (.int (inR64.2 (by omega))) hp20 hl28) ?_
                refine WL.gv rfl rfl ?_
                refine WL.nil ?_
                exact WN.again n18 ((out1, i + 1), k4) (Nat.lt_succ_self n18) hm ⟨Ent.q rfl, Ent.q rfl, Ent.q rfl, Ent.q rfl, trivial⟩ ⟨rfl, rfl, trivial⟩
              · have hp25 := ne_of_false hc24
                rw [if_neg hp25] at hm
                refine W.skip ?_
                refine WN.block ?_
                refine WN.seq ?_
                refine W.region ?_
                refine WL.mv rfl rfl ?_
                refine WL.lenL (s := 6) (.tmp rfl) fun hl29 => ?_
                refine WL.op rfl (Op1.addI1 (.tmp rfl) (.int (inR64.2 (by omega))) hp20 hl29) ?_
                refine WL.gv rfl rfl ?_
                refine WL.nil ?_
                exact WN.again n18 ((now1, i + 1), k3) (Nat.lt_succ_self n18) hm ⟨Ent.q rfl, Ent.q rfl, Ent.q rfl, Ent.q rfl, trivial⟩ ⟨rfl, rfl, trivial⟩
            · have hp20 := of_decide_eq_false hc19
              rw [if_neg hp20] at hm
              refine W.exit rfl ?_
              have hr30 := Option.some.inj hm
              clear hm
              subst hr30
              have hm := hk17
              try dsimp only at hm
              exact WN.meet (now1, k3) (Option.some.inj hm) ⟨Ent.q rfl, Ent.q rfl, trivial⟩ ⟨rfl, rfl, trivial⟩

theorem r07_Find_spec (n : Nat) (u : api_Unit) (p : List api_Step) (r : (List api_Id)) (hm : M.r07_Find n u p = some r) : FSpec Try.prog 21 [(tapi_Unit.is u), ((tL tapi_Step).is p)] ((tL tapi_Id).is r) := by
  unfold M.r07_Find at hm
  refine FSpec.of Try.func21 rfl rfl rfl (fun g0 => ?_)
  refine W.sr ?_
  refine WL.op rfl (Op1.box (.tmp rfl)) ?_
  refine WL.op rfl (Op1.assign (.nil (t := tapi_Id))) ?_
  refine WL.nr ?_
  refine WL.opR rfl (OpR.buildSlice (n := 0) (ys := []) (z := zapi_Id) (xs := ([] : List api_Id)) 8 Try.underlying42 el23 ze23 trivial (by simp) (by decide) rfl) (fun k => ?_)
  refine WL.gv rfl rfl ?_
  refine WL.nr ?_
  refine WL.op rfl (Op1.load ty27 (.tmp rfl)) ?_
  refine WL.mv rfl rfl ?_
  obtain ⟨units, hv1, hm⟩ := bind_some hm
  refine WL.op rfl (Op1.call Try.call34 (r07_Units_spec _ _ _ _ hv1) ⟨(.tmp rfl), (.tmp rfl), trivial⟩) ?_
  refine WL.gv rfl rfl ?_
  refine WL.ns ?_
  refine W.seq ?_
  refine W.sr ?_
  refine WL.op rfl (Op1.assign (.int (inR64.2 (by omega)))) ?_
  refine WL.ns ?_
  refine W.block ?_
  obtain ⟨s2, hs3, hk4⟩ := bind_some hm
  clear hm
  refine W.loop (fun m (s : ((List api_Id) × Int) × Tok) => M.r07_Find_loop1 units m s.1.1 s.1.2 = some s2) (fun s => [(5, (tO tapi_Id s.2 s.1.1)), (7, ((tI .i64).is s.1.2)), (6, ((tL tapi_Unit).is units))]) (fun s => [(8, Own tapi_Id 23 s.2 s.1.1.length)]) _ ((([] : List api_Id), (0 : Int)), k) hs3 ⟨Ent.q rfl, Ent.q rfl, Ent.q rfl, trivial⟩ ⟨rfl, rfl, trivial⟩ ?_
  rintro n5 ⟨⟨out, i⟩, k1⟩ hm
  try dsimp only at hm
  change W _ _ _ _ _ _ _ [(5, (tO tapi_Id k1 out)), (7, ((tI .i64).is i)), (6, ((tL tapi_Unit).is units))] [(8, Own tapi_Id 23 k1 out.length)]
  cases n5 with
  | zero => rw [M.r07_Find_loop1.eq_1] at hm; cases hm
  | succ n5 =>
    rw [M.r07_Find_loop1.eq_2] at hm
    refine W.seq ?_
    refine W.sr ?_
    refine WL.mv rfl rfl ?_
    refine WL.mv rfl rfl ?_
    refine WL.op rfl (Op1.lenL Try.underlying25 (.tmp rfl)) ?_
    refine WL.op rfl (Op1.ltI (.tmp rfl) (.tmp rfl)) ?_
    refine WL.ns ?_
    refine W.cond (.tmp rfl) (fun hc6 => ?_) (fun hc6 => ?_)
    · have hp7 := of_decide_eq_true hc6
      rw [if_pos hp7] at hm
      refine W.skip ?_
      refine WN.seq ?_
      refine W.seq ?_
      refine W.block ?_
      refine W.region ?_
      refine WL.mv rfl rfl ?_
      refine WL.mv rfl rfl ?_
      refine WL.mv rfl rfl ?_
      obtain ⟨v, hv8, hm⟩ := bind_some hm
      refine WL.op rfl (Op1.idx hv8 Try.underlying25 Try.sizeOf27 (.tmp rfl) (.tmp rfl)) ?_
      refine WL.op rfl (Op1.fieldAddr Try.underlying27 rfl (fun w => ⟨2, Try.sizeOf23 w⟩) fapi_Unit_0 (.tmp rfl)) ?_
      refine WL.op rfl (Op1.load ty23 (.tmp rfl)) ?_
      refine WL.op rfl (Op1.buildSlice (n := 1) (ys := [(0, v.Id)]) (z := zapi_Id) (xs := [v.Id]) Try.underlying42 el23 ze23 ⟨rfl, (.tmp rfl), trivial⟩ (by simp) (by decide) rfl) ?_
      obtain ⟨out1, hv9, hm⟩ := bind_some hm
      refine WL.opR rfl (OpR.appC (key := 8) hv9 Try.underlying42 el23 (.tmp rfl) (.tmp rfl) rfl) (fun k2 => ?_)
      refine WL.gv rfl rfl ?_
      refine WL.nil ?_
      refine WN.block ?_
      refine WN.seq ?_
      refine W.region ?_
      refine WL.mv rfl rfl ?_
      refine WL.lenL (s := 6) (.tmp rfl) fun hl10 => ?_
      refine WL.op rfl (Op1.addI1 (.tmp rfl) (.int (inR64.2 (by omega))) hp7 hl10) ?_
      refine WL.gv rfl rfl ?_
      refine WL.nil ?_
      exact WN.again n5 ((out1, i + 1), k2) (Nat.lt_succ_self n5) hm ⟨Ent.q rfl, Ent.q rfl, Ent.q rfl, trivial⟩ ⟨rfl, rfl, trivial⟩
    · have hp7 := of_decide_eq_false hc6
      rw [if_neg hp7] at hm
      refine W.exit rfl ?_
      have hr11 := Option.some.inj hm
      clear hm
      subst hr11
      have hm := hk4
      try dsimp only at hm
      refine WN.seq ?_
      refine W.sr ?_
      refine WL.mv rfl rfl ?_
      refine WL.gv rfl rfl ?_
      refine WL.ns ?_
      cases hm
      exact W.ret1 () rfl (Opd.own (.tmp rfl)) trivial

theorem r07_One_spec (n : Nat) (u : api_Unit) (p : List api_Step) (r : api_Id × Int) (hm : M.r07_One n u p = some r) : FSpec Try.prog 18 [(tapi_Unit.is u), ((tL tapi_Step).is p)] (Asn.tuple2 (tapi_Id.is r.1) ((tI .i64).is r.2)) := by
  unfold M.r07_One at hm
  refine FSpec.of Try.func18 rfl rfl rfl (fun g0 => ?_)
  refine W.sr ?_
  refine WL.op rfl (Op1.box (.tmp rfl)) ?_
  refine WL.opR rfl (OpR.alloc 4 ze23) (fun b => ?_)
  refine WL.op rfl (Op1.assign (.int (inR64.2 (by omega)))) ?_
  refine WL.nr ?_
  refine WL.op rfl (Op1.load ty27 (.tmp rfl)) ?_
  refine WL.mv rfl rfl ?_
  obtain ⟨find, hv1, hm⟩ := bind_some hm
  refine WL.op rfl (Op1.call Try.call21 (r07_Find_spec _ _ _ _ hv1) ⟨(.tmp rfl), (.tmp rfl), trivial⟩) ?_
  refine WL.gv rfl rfl ?_
  refine WL.ns ?_
  refine W.seq ?_
  refine W.sr ?_
  refine WL.mv rfl rfl ?_
  refine WL.op rfl (Op1.lenL Try.underlying42 (.tmp rfl)) ?_
  refine WL.op rfl (Op1.eqI (.tmp rfl) (.int (inR64.2 (by omega)))) ?_
  refine WL.ns ?_
  refine W.cond (.tmp rfl) (fun hc2 => ?_) (fun hc2 => ?_)
  · have hp3 := of_decide_eq_true hc2
    rw [if_pos hp3] at hm
    refine W.sr ?_
    refine WL.op rfl (Op1.build (s := tapi_Id) (x := (⟨(0 : Int), (0 : Int), (0 : Int)⟩ : api_Id)) zapi_Id_f rfl Try.underlying23 (zapi_Id_sz _ Try.underlying23) ze23 rfl) ?_
    refine WL.opU (OpR.storeB (b := b) 4 Try.sizeOf23 (Cellable.is tapi_Id (⟨(0 : Int), (0 : Int), (0 : Int)⟩ : api_Id)) rfl (.tmp rfl) (.tmp rfl)) (fun _ => ?_)
    refine WL.op rfl (Op1.assign (.int (inR64.2 (by omega)))) ?_
    refine WL.ns ?_
    cases hm
    exact W.retQ2 () rfl rfl (ResAt.cell 4 Try.isAgg23 Try.sizeOf23 rfl (.tmp rfl)) (ResAt.tmp (.tmp rfl)) trivial
  · have hp3 := of_decide_eq_false hc2
    rw [if_neg hp3] at hm
    refine W.skip ?_
    refine WN.seq ?_
    refine W.seq ?_
    refine W.sr ?_
    refine WL.mv rfl rfl ?_
    refine WL.op rfl (Op1.lenL Try.underlying42 (.tmp rfl)) ?_
    refine WL.op rfl (Op1.gtI (.tmp rfl) (.int (inR64.2 (by omega)))) ?_
    refine WL.ns ?_
    refine W.cond (.tmp rfl) (fun hc4 => ?_) (fun hc4 => ?_)
    · have hp5 := of_decide_eq_true hc4
      rw [if_pos hp5] at hm
      refine W.sr ?_
      refine WL.op rfl (Op1.build (s := tapi_Id) (x := (⟨(0 : Int), (0 : Int), (0 : Int)⟩ : api_Id)) zapi_Id_f rfl Try.underlying23 (zapi_Id_sz _ Try.underlying23) ze23 rfl) ?_
      refine WL.opU (OpR.storeB (b := b) 4 Try.sizeOf23 (Cellable.is tapi_Id (⟨(0 : Int), (0 : Int), (0 : Int)⟩ : api_Id)) rfl (.tmp rfl) (.tmp rfl)) (fun _ => ?_)
      refine WL.op rfl (Op1.assign (.int (inR64.2 (by omega)))) ?_
      refine WL.ns ?_
      cases hm
      exact W.retQ2 () rfl rfl (ResAt.cell 4 Try.isAgg23 Try.sizeOf23 rfl (.tmp rfl)) (ResAt.tmp (.tmp rfl)) trivial
    · have hp5 := of_decide_eq_false hc4
      rw [if_neg hp5] at hm
      refine W.skip ?_
      refine WN.seq ?_
      refine W.sr ?_
      refine WL.mv rfl rfl ?_
      obtain ⟨v, hv6, hm⟩ := bind_some hm
      refine WL.op rfl (Op1.idx hv6 Try.underlying42 Try.sizeOf23 (.tmp rfl) (.int (inR64.2 (by omega)))) ?_
      refine WL.op rfl (Op1.load ty23 (.tmp rfl)) ?_
      refine WL.opU (OpR.storeB (b := b) 4 Try.sizeOf23 (Cellable.is tapi_Id v) rfl (.tmp rfl) (.tmp rfl)) (fun _ => ?_)
      refine WL.op rfl (Op1.assign (.int (inR64.2 (by omega)))) ?_
      refine WL.ns ?_
      cases hm
      exact W.retQ2 () rfl rfl (ResAt.cell 4 Try.isAgg23 Try.sizeOf23 rfl (.tmp rfl)) (ResAt.tmp (.tmp rfl)) trivial

theorem r06_Find_spec : ∀ (n : Nat) (u : api_Unit) (id : api_Id) (r : api_Unit × Bool), M.r06_Find n u id = some r → FSpec Try.prog 15 [(tapi_Unit.is u), (tapi_Id.is id)] (Asn.tuple2 (tapi_Unit.is r.1) (tB.is r.2)) := by
  intro n
  induction n with
  | zero => intro u id r hm; cases hm
  | succ n ih =>
    intro u id r hm
    rw [M.r06_Find.eq_2] at hm
    refine FSpec.of Try.func15 rfl rfl rfl (fun g0 => ?_)
    refine W.sr ?_
    refine WL.op rfl (Op1.box (.tmp rfl)) ?_
    refine WL.op rfl (Op1.box (.tmp rfl)) ?_
    refine WL.opR rfl (OpR.alloc 4 ze27) (fun b => ?_)
    refine WL.op rfl (Op1.assign .bool) ?_
    refine WL.ns ?_
    refine W.seq ?_
    refine W.sr ?_
    refine WL.op rfl (Op1.fieldAddr Try.underlying27 rfl (fun w => ⟨2, Try.sizeOf23 w⟩) fapi_Unit_0 (.tmp rfl)) ?_
    refine WL.op rfl (Op1.load ty23 (.tmp rfl)) ?_
    refine WL.op rfl (Op1.load ty23 (.tmp rfl)) ?_
    refine WL.op rfl (Op1.eqSt (D := 2) rfl (by decide) eg23 eq23 (.tmp rfl) (.tmp rfl)) ?_
    refine WL.ns ?_
    refine W.cond (.tmp rfl) (fun hc1 => ?_) (fun hc1 => ?_)
    · have hp2 := of_decide_eq_true hc1
      rw [if_pos hp2] at hm
      refine W.sr ?_
      refine WL.op rfl (Op1.load ty27 (.tmp rfl)) ?_
      refine WL.opU (OpR.storeB (b := b) 4 Try.sizeOf27 (Cellable.is tapi_Unit u) rfl (.tmp rfl) (.tmp rfl)) (fun _ => ?_)
      refine WL.op rfl (Op1.assign .bool) ?_
      refine WL.ns ?_
      cases hm
      exact W.retQ2 () rfl rfl (ResAt.cell 4 Try.isAgg27 Try.sizeOf27 rfl (.tmp rfl)) (ResAt.tmp (.tmp rfl)) trivial
    · have hp2 := of_decide_eq_false hc1
      rw [if_neg hp2] at hm
      refine W.skip ?_
      refine WN.seq ?_
      refine W.seq ?_
      refine W.sr ?_
      refine WL.op rfl (Op1.assign (.int (inR64.2 (by omega)))) ?_
      refine WL.ns ?_
      refine W.block ?_
      obtain ⟨s3, hs4, hk5⟩ := bind_some hm
      clear hm
      refine W.loop (fun m (s : Int × api_Unit) => M.r06_Find_loop1 u id (M.r06_Find n) m s.1 s.2 = some s3) (fun s => [(6, ((tI .i64).is s.1)), (2, (tapi_Unit.ptr u)), (3, (tapi_Id.ptr id)), (4, (Bp b 0))]) (fun s => [(4, (Bx 8 true 27 (tapi_Unit.is s.2) b))]) _ ((0 : Int), zapi_Unit) hs4 ⟨Ent.q rfl, Ent.q rfl, Ent.q rfl, Ent.q rfl, trivial⟩ ⟨rfl, rfl, trivial⟩ ?_
      rintro n6 ⟨i, v⟩ hm
      try dsimp only at hm
      change W _ _ _ _ _ _ _ [(6, ((tI .i64).is i)), (2, (tapi_Unit.ptr u)), (3, (tapi_Id.ptr id)), (4, (Bp b 0))] [(4, (Bx 8 true 27 (tapi_Unit.is v) b))]
      cases n6 with
      | zero => rw [M.r06_Find_loop1.eq_1] at hm; cases hm
      | succ n6 =>
        rw [M.r06_Find_loop1.eq_2] at hm
        refine W.seq ?_
        refine W.sr ?_
        refine WL.mv rfl rfl ?_
        refine WL.op rfl (Op1.fieldAddr Try.underlying27 rfl (fun w => ⟨0, Try.sizeOf25 w⟩) fapi_Unit_5 (.tmp rfl)) ?_
        refine WL.op rfl (Op1.load ty25 (.tmp rfl)) ?_
        refine WL.op rfl (Op1.lenL Try.underlying25 (.tmp rfl)) ?_
        refine WL.op rfl (Op1.ltI (.tmp rfl) (.tmp rfl)) ?_
        refine WL.ns ?_
        refine W.cond (.tmp rfl) (fun hc7 => ?_) (fun hc7 => ?_)
        · have hp8 := of_decide_eq_true hc7
          rw [if_pos hp8] at hm
          refine W.skip ?_
          refine WN.seq ?_
          refine W.seq ?_
          refine W.block ?_
          refine W.seq ?_
          obtain ⟨v1, hv9, hm⟩ := bind_some hm
          obtain ⟨find, hv10, hm⟩ := bind_some hm
          refine W.weakR (res' := [(4, (Bx 8 true 27 (tapi_Unit.is v) b))]) ⟨rfl, rfl, trivial⟩ ?_
          refine W.drawM [.c ((tL tapi_Unit).ptr u.Kids), .c ((tL tapi_Unit).is u.Kids), .c ((tI .i64).is i), .c (tapi_Unit.ptr v1), .c (tapi_Unit.is v1), .c (tapi_Id.is id), .c (Asn.tuple2 (tapi_Unit.is find.1) (tB.is find.2)), .c (Asn.tuple2 (tapi_Unit.is find.1) (tB.is find.2)), .c (tapi_Unit.is find.1), .c (tB.is find.2), .f (fun cv => (Bp (bk (cv 0)) 0)), .c Asn.any, .c (tB.is find.2)] [([], [2]), ([0], []), ([], [6]), ([1, 2], []), ([3], []), ([], [3]), ([4, 5], []), ([6], []), ([7], []), ([7], []), ([], []), ([8, 10], []), ([9], [])] [10, 11] [[], [], [], [], [], [], [], [], [], [], [true], [], []] (fun m cv => match m with | 0 => [(4, (Bx 8 true 27 (tapi_Unit.is v) b))] | 1 => [(7, (Bx 8 true 27 (tapi_Unit.is zapi_Unit) (bk (cv 0)))), (4, (Bx 8 true 27 (tapi_Unit.is v) b))] | _ => [(7, (Bx 8 true 27 (tapi_Unit.is find.1) (bk (cv 0)))), (4, (Bx 8 true 27 (tapi_Unit.is v) b))]) (fun _ => none) Try.mixed rfl rfl rfl rfl rfl ⟨fun _ _ _ _ => rfl, ⟨fun _ _ _ _ => rfl, ⟨fun _ _ _ _ => rfl, ⟨fun _ _ _ _ => rfl, ⟨fun _ _ _ _ => rfl, ⟨fun _ _ _ _ => rfl, ⟨fun _ _ _ _ => rfl, ⟨fun _ _ _ _ => rfl, ⟨fun _ _ _ _ => rfl, ⟨fun _ _ _ _ => rfl, ⟨fun m hm c t => by simp only [DA.at, upd_dep (r := [true]) (j := 0) rfl hm], ⟨fun _ _ _ _ => rfl, ⟨fun _ _ _ _ => rfl, trivial⟩⟩⟩⟩⟩⟩⟩⟩⟩⟩⟩⟩⟩ rfl ⟨.inr ⟨fun cv => [], (fun _ _ _ _ => trivial), fun cv => Op1.fieldAddr Try.underlying27 rfl (fun w => ⟨0, Try.sizeOf25 w⟩) fapi_Unit_5 (.tmp rfl)⟩, ⟨.inr ⟨fun cv => [], (fun _ _ _ _ => trivial), fun cv => Op1.load ty25 (.tmp rfl)⟩, ⟨.inr ⟨fun cv => [], (fun _ _ _ _ => trivial), fun cv => Op1.move (.tmp rfl)⟩, ⟨.inr ⟨fun cv => [], (fun _ _ _ _ => trivial), fun cv => Op1.idx hv9 Try.underlying25 Try.sizeOf27 (.tmp rfl) (.tmp rfl)⟩, ⟨.inr ⟨fun cv => [], (fun _ _ _ _ => trivial), fun cv => Op1.load ty27 (.tmp rfl)⟩, ⟨.inr ⟨fun cv => [], (fun _ _ _ _ => trivial), fun cv => Op1.load ty23 (.tmp rfl)⟩, ⟨.inr ⟨fun cv => [], (fun _ _ _ _ => trivial), fun cv => Op1.call Try.call15 (ih _ _ _ hv10) ⟨(.tmp rfl), (.tmp rfl), trivial⟩⟩, ⟨.inr ⟨fun cv => [], (fun _ _ _ _ => trivial), fun cv => Op1.move (.tmp rfl)⟩, ⟨.inr ⟨fun cv => [], (fun _ _ _ _ => trivial), fun cv => Op1.extract0 (.tmp rfl)⟩, ⟨.inr ⟨fun cv => [], (fun _ _ _ _ => trivial), fun cv => Op1.extract1 (.tmp rfl)⟩, ⟨.inl rfl, ⟨.inl rfl, ⟨.inr ⟨fun cv => [], (fun _ _ _ _ => trivial), fun cv => Op1.assign (.tmp rfl)⟩, trivial⟩⟩⟩⟩⟩⟩⟩⟩⟩⟩⟩⟩⟩ ⟨⟨_, _, _, [], (fun cv => [(7, (Bx 8 true 27 (tapi_Unit.is zapi_Unit) (bk (cv 0))))]), rfl, rfl, rfl, rfl, fun _ => rfl, fun _ _ => rfl, fun cv => OpR.viaB (OpR.alloc 7 ze27)⟩, ⟨⟨_, _, _, [7], (fun cv => [(7, (Bx 8 true 27 (tapi_Unit.is find.1) (bk (cv 0))))]), rfl, rfl, rfl, rfl, fun _ => rfl, fun _ _ => rfl, fun cv => OpR.viaU (OpR.storeB (b := (bk (cv 0))) 7 Try.sizeOf27 (Cellable.is tapi_Unit find.1) rfl (.tmp rfl) (.tmp rfl))⟩, trivial⟩⟩ (fun cv => ?_)
          refine WN.seq ?_
          refine W.sr ?_
          refine WL.mv rfl rfl ?_
          refine WL.ns ?_
          refine W.cond (.tmp rfl) (fun hc11 => ?_) (fun hc11 => ?_)
          · have hp12 := hc11
            rw [if_pos hp12] at hm
            refine W.sr ?_
            refine WL.op rfl (Op1.loadB 7 Try.isAgg27 Try.sizeOf27 rfl (.tmp rfl)) ?_
            refine WL.opU (OpR.storeB (b := b) 4 Try.sizeOf27 (Cellable.is tapi_Unit find.1) rfl (.tmp rfl) (.tmp rfl)) (fun _ => ?_)
            refine WL.op rfl (Op1.assign .bool) ?_
            refine WL.ns ?_
            have hr13 := Option.some.inj hm
            clear hm
            subst hr13
            have hm := hk5
            try dsimp only at hm
            cases hm
            exact W.retQ2 () rfl rfl (ResAt.cell 4 Try.isAgg27 Try.sizeOf27 rfl (.tmp rfl)) (ResAt.tmp (.tmp rfl)) trivial
          · have hp12 := ne_of_false hc11
            rw [if_neg hp12] at hm
            refine W.skip ?_
            refine WN.block ?_
            refine WN.seq ?_
            refine W.region ?_
            refine WL.mv rfl rfl ?_
            refine WL.lenL (s := 16) (.tmp rfl) fun hl14 => ?_
            refine WL.op rfl (Op1.addI1 (.tmp rfl) (.int (inR64.2 (by omega))) hp8 hl14) ?_
            refine WL.gv rfl rfl ?_
            refine WL.nil ?_
            exact WN.again n6 (i + 1, v) (Nat.lt_succ_self n6) hm ⟨Ent.q rfl, Ent.q rfl, Ent.q rfl, Ent.q rfl, trivial⟩ ⟨rfl, rfl, trivial⟩
        · have hp8 := of_decide_eq_false hc7
          rw [if_neg hp8] at hm
          refine W.exit rfl ?_
          have hr15 := Option.some.inj hm
          clear hm
          subst hr15
          have hm := hk5
          try dsimp only at hm
          refine WN.seq ?_
          refine W.sr ?_
          refine WL.op rfl (Op1.build (s := tapi_Unit) (x := (⟨zapi_Id, (0 : Int), ([] : Str), ([] : List api_Word), ([] : List api_Word), ([] : List api_Unit)⟩ : api_Unit)) zapi_Unit_f rfl Try.underlying27 (zapi_Unit_sz _ Try.underlying27) ze27 rfl) ?_
          refine WL.opU (OpR.storeB (b := b) 4 Try.sizeOf27 (Cellable.is tapi_Unit (⟨zapi_Id, (0 : Int), ([] : Str), ([] : List api_Word), ([] : List api_Word), ([] : List api_Unit)⟩ : api_Unit)) rfl (.tmp rfl) (.tmp rfl)) (fun _ => ?_)
          refine WL.op rfl (Op1.assign .bool) ?_
          refine WL.ns ?_
          cases hm
          exact W.retQ2 () rfl rfl (ResAt.cell 4 Try.isAgg27 Try.sizeOf27 rfl (.tmp rfl)) (ResAt.tmp (.tmp rfl)) trivial

theorem r06_Parent_spec : ∀ (n : Nat) (u : api_Unit) (id : api_Id) (r : api_Id × Int × Bool), M.r06_Parent n u id = some r → FSpec Try.prog 16 [(tapi_Unit.is u), (tapi_Id.is id)] (Asn.tuple3 (tapi_Id.is r.1) ((tI .i64).is r.2.1) (tB.is r.2.2)) := by
  intro n
  induction n with
  | zero => intro u id r hm; cases hm
  | succ n ih =>
    intro u id r hm
    rw [M.r06_Parent.eq_2] at hm
    refine FSpec.of Try.func16 rfl rfl rfl (fun g0 => ?_)
    refine W.sr ?_
    refine WL.op rfl (Op1.box (.tmp rfl)) ?_
    refine WL.op rfl (Op1.box (.tmp rfl)) ?_
    refine WL.opR rfl (OpR.alloc 4 ze23) (fun b => ?_)
    refine WL.op rfl (Op1.assign (.int (inR64.2 (by omega)))) ?_
    refine WL.op rfl (Op1.assign .bool) ?_
    refine WL.ns ?_
    refine W.seq ?_
    refine W.sr ?_
    refine WL.op rfl (Op1.fieldAddr Try.underlying27 rfl (fun w => ⟨2, Try.sizeOf23 w⟩) fapi_Unit_0 (.tmp rfl)) ?_
    refine WL.op rfl (Op1.load ty23 (.tmp rfl)) ?_
    refine WL.op rfl (Op1.load ty23 (.tmp rfl)) ?_
    refine WL.op rfl (Op1.eqSt (D := 2) rfl (by decide) eg23 eq23 (.tmp rfl) (.tmp rfl)) ?_
    refine WL.ns ?_
    refine W.cond (.tmp rfl) (fun hc1 => ?_) (fun hc1 => ?_)
    · have hp2 := of_decide_eq_true hc1
      rw [if_pos hp2] at hm
      refine W.sr ?_
      refine WL.op rfl (Op1.build (s := tapi_Id) (x := (⟨(0 : Int), (0 : Int), (0 : Int)⟩ : api_Id)) zapi_Id_f rfl Try.underlying23 (zapi_Id_sz _ Try.underlying23) ze23 rfl) ?_
      refine WL.opU (OpR.storeB (b := b) 4 Try.sizeOf23 (Cellable.is tapi_Id (⟨(0 : Int), (0 : Int), (0 : Int)⟩ : api_Id)) rfl (.tmp rfl) (.tmp rfl)) (fun _ => ?_)
      refine WL.op rfl (Op1.assign (.int (inR64.2 (by omega)))) ?_
      refine WL.op rfl (Op1.assign .bool) ?_
      refine WL.ns ?_
      cases hm
      exact W.retQ3 () rfl rfl (ResAt.cell 4 Try.isAgg23 Try.sizeOf23 rfl (.tmp rfl)) (ResAt.tmp (.tmp rfl)) (ResAt.tmp (.tmp rfl)) trivial
    · have hp2 := of_decide_eq_false hc1
      rw [if_neg hp2] at hm
      refine W.skip ?_
      refine WN.seq ?_
      refine W.seq ?_
      refine W.sr ?_
      refine WL.op rfl (Op1.assign (.int (inR64.2 (by omega)))) ?_
      refine WL.ns ?_
      refine W.block ?_
      obtain ⟨s3, hs4, hk5⟩ := bind_some hm
      clear hm
      refine W.loop (fun m (s : Int × api_Id) => M.r06_Parent_loop1 u id (M.r06_Parent n) m s.1 s.2 = some s3) (fun s => [(7, ((tI .i64).is s.1)), (2, (tapi_Unit.ptr u)), (3, (tapi_Id.ptr id)), (4, (Bp b 0))]) (fun s => [(4, (Bx 3 true 23 (tapi_Id.is s.2) b))]) _ ((0 : Int), zapi_Id) hs4 ⟨Ent.q rfl, Ent.q rfl, Ent.q rfl, Ent.q rfl, trivial⟩ ⟨rfl, rfl, trivial⟩ ?_
      rintro n6 ⟨i, v⟩ hm
      try dsimp only at hm
      change W _ _ _ _ _ _ _ [(7, ((tI .i64).is i)), (2, (tapi_Unit.ptr u)), (3, (tapi_Id.ptr id)), (4, (Bp b 0))] [(4, (Bx 3 true 23 (tapi_Id.is v) b))]
      cases n6 with
      | zero => rw [M.r06_Parent_loop1.eq_1] at hm; cases hm
      | succ n6 =>
        rw [M.r06_Parent_loop1.eq_2] at hm
        refine W.seq ?_
        refine W.sr ?_
        refine WL.mv rfl rfl ?_
        refine WL.op rfl (Op1.fieldAddr Try.underlying27 rfl (fun w => ⟨0, Try.sizeOf25 w⟩) fapi_Unit_5 (.tmp rfl)) ?_
        refine WL.op rfl (Op1.load ty25 (.tmp rfl)) ?_
        refine WL.op rfl (Op1.lenL Try.underlying25 (.tmp rfl)) ?_
        refine WL.op rfl (Op1.ltI (.tmp rfl) (.tmp rfl)) ?_
        refine WL.ns ?_
        refine W.cond (.tmp rfl) (fun hc7 => ?_) (fun hc7 => ?_)
        · have hp8 := of_decide_eq_true hc7
          rw [if_pos hp8] at hm
          refine W.skip ?_
          refine WN.seq ?_
          refine W.seq ?_
          refine W.block ?_
          refine W.seq ?_
          refine W.seq ?_
          obtain ⟨v1, hv9, hm⟩ := bind_some hm
          refine W.draw [.c ((tL tapi_Unit).ptr u.Kids), .c ((tL tapi_Unit).is u.Kids), .c ((tI .i64).is i), .c (tapi_Unit.ptr v1), .c (tapi_Id.ptr v1.Id), .c (tapi_Id.is v1.Id), .c (tapi_Id.is id), .c (tB.is (decide (v1.Id = id)))] [([], [2]), ([0], []), ([], [7]), ([1, 2], []), ([3], []), ([4], []), ([], [3]), ([5, 6], [])] Try.mixed rfl rfl rfl rfl ⟨.inr (Op1.fieldAddr Try.underlying27 rfl (fun w => ⟨0, Try.sizeOf25 w⟩) fapi_Unit_5 (.tmp rfl)), .inr (Op1.load ty25 (.tmp rfl)), .inr (Op1.move (.tmp rfl)), .inr (Op1.idx hv9 Try.underlying25 Try.sizeOf27 (.tmp rfl) (.tmp rfl)), .inr (Op1.fieldAddr Try.underlying27 rfl (fun w => ⟨2, Try.sizeOf23 w⟩) fapi_Unit_0 (.tmp rfl)), .inr (Op1.load ty23 (.tmp rfl)), .inr (Op1.load ty23 (.tmp rfl)), .inr (Op1.eqSt (D := 2) rfl (by decide) eg23 eq23 (.tmp rfl) (.tmp rfl)), trivial⟩ ?_
          refine WN.seq ?_
          refine W.cond (.tmp rfl) (fun hc10 => ?_) (fun hc10 => ?_)
          · have hp11 := of_decide_eq_true hc10
            rw [if_pos hp11] at hm
            refine W.sr ?_
            refine WL.op rfl (Op1.fieldAddr Try.underlying27 rfl (fun w => ⟨2, Try.sizeOf23 w⟩) fapi_Unit_0 (.tmp rfl)) ?_
            refine WL.op rfl (Op1.load ty23 (.tmp rfl)) ?_
            refine WL.mv rfl rfl ?_
            refine WL.opU (OpR.storeB (b := b) 4 Try.sizeOf23 (Cellable.is tapi_Id u.Id) rfl (.tmp rfl) (.tmp rfl)) (fun _ => ?_)
            refine WL.gv rfl rfl ?_
            refine WL.op rfl (Op1.assign .bool) ?_
            refine WL.ns ?_
            have hr12 := Option.some.inj hm
            clear hm
            subst hr12
            have hm := hk5
            try dsimp only at hm
            cases hm
            exact W.retQ3 () rfl rfl (ResAt.cell 4 Try.isAgg23 Try.sizeOf23 rfl (.tmp rfl)) (ResAt.tmp (.tmp rfl)) (ResAt.tmp (.tmp rfl)) trivial
          · have hp11 := of_decide_eq_false hc10
            rw [if_neg hp11] at hm
            refine W.skip ?_
            refine WN.seq ?_
            refine W.seq ?_
            obtain ⟨v2, hv13, hm⟩ := bind_some hm
            obtain ⟨find, hv14, hm⟩ := bind_some hm
            refine W.weakR (res' := [(4, (Bx 3 true 23 (tapi_Id.is v) b))]) ⟨rfl, rfl, trivial⟩ ?_
            refine W.drawM [.c ((tL tapi_Unit).ptr u.Kids), .c ((tL tapi_Unit).is u.Kids), .c ((tI .i64).is i), .c (tapi_Unit.ptr v2), .c (tapi_Unit.is v2), .c (tapi_Id.is id), .c (Asn.tuple2 (tapi_Unit.is find.1) (tB.is find.2)), .c (Asn.tuple2 (tapi_Unit.is find.1) (tB.is find.2)), .c (tapi_Unit.is find.1), .c (tB.is find.2), .f (fun cv => (Bp (bk (cv 0)) 0)), .c Asn.any, .c (tB.is find.2)] [([], [2]), ([0], []), ([], [7]), ([1, 2], []), ([3], []), ([], [3]), ([4, 5], []), ([6], []), ([7], []), ([7], []), ([], []), ([8, 10], []), ([9], [])] [10, 11] [[], [], [], [], [], [], [], [], [], [], [true], [], []] (fun m cv => match m with | 0 => [(4, (Bx 3 true 23 (tapi_Id.is v) b))] | 1 => [(8, (Bx 8 true 27 (tapi_Unit.is zapi_Unit) (bk (cv 0)))), (4, (Bx 3 true 23 (tapi_Id.is v) b))] | _ => [(8, (Bx 8 true 27 (tapi_Unit.is find.1) (bk (cv 0)))), (4, (Bx 3 true 23 (tapi_Id.is v) b))]) (fun _ => none) Try.mixed rfl rfl rfl rfl rfl ⟨fun _ _ _ _ => rfl, ⟨fun _ _ _ _ => rfl, ⟨fun _ _ _ _ => rfl, ⟨fun _ _ _ _ => rfl, ⟨fun _ _ _ _ => rfl, ⟨fun _ _ _ _ => rfl, ⟨fun _ _ _ _ => rfl, ⟨fun _ _ _ _ => rfl, ⟨fun _ _ _ _ => rfl, ⟨fun _ _ _ _ => rfl, ⟨fun m hm c t => by simp only [DA.at, upd_dep (r := [true]) (j := 0) rfl hm], ⟨fun _ _ _ _ => rfl, ⟨fun _ _ _ _ => rfl, trivial⟩⟩⟩⟩⟩⟩⟩⟩⟩⟩⟩⟩⟩ rfl ⟨.inr ⟨fun cv => [], (fun _ _ _ _ => trivial), fun cv => Op1.fieldAddr Try.underlying27 rfl (fun w => ⟨0, Try.sizeOf25 w⟩) fapi_Unit_5 (.tmp rfl)⟩, ⟨.inr ⟨fun cv => [], (fun _ _ _ _ => trivial), fun cv => Op1.load ty25 (.tmp rfl)⟩, ⟨.inr ⟨fun cv => [], (fun _ _ _ _ => trivial), fun cv => Op1.move (.tmp rfl)⟩, ⟨.inr ⟨fun cv => [], (fun _ _ _ _ => trivial), fun cv => Op1.idx hv13 Try.underlying25 Try.sizeOf27 (.tmp rfl) (.tmp rfl)⟩, ⟨.inr ⟨fun cv => [], (fun _ _ _ _ => trivial), fun cv => Op1.load ty27 (.tmp rfl)⟩, ⟨.inr ⟨fun cv => [], (fun _ _ _ _ => trivial), fun cv => Op1.load ty23 (.tmp rfl)⟩, ⟨.inr ⟨fun cv => [], (fun _ _ _ _ => trivial), fun cv => Op1.call Try.call15 (r06_Find_spec _ _ _ _ hv14) ⟨(.tmp rfl), (.tmp rfl), trivial⟩⟩, ⟨.inr ⟨fun cv => [], (fun _ _ _ _ => trivial), fun cv => Op1.move (.tmp rfl)⟩, ⟨.inr ⟨fun cv => [], (fun _ _ _ _ => trivial), fun cv => Op1.extract0 (.tmp rfl)⟩, ⟨.inr ⟨fun cv => [], (fun _ _ _ _ => trivial), fun cv => Op1.extract1 (.tmp rfl)⟩, ⟨.inl rfl, ⟨.inl rfl, ⟨.inr ⟨fun cv => [], (fun _ _ _ _ => trivial), fun cv => Op1.assign (.tmp rfl)⟩, trivial⟩⟩⟩⟩⟩⟩⟩⟩⟩⟩⟩⟩⟩ ⟨⟨_, _, _, [], (fun cv => [(8, (Bx 8 true 27 (tapi_Unit.is zapi_Unit) (bk (cv 0))))]), rfl, rfl, rfl, rfl, fun _ => rfl, fun _ _ => rfl, fun cv => OpR.viaB (OpR.alloc 8 ze27)⟩, ⟨⟨_, _, _, [8], (fun cv => [(8, (Bx 8 true 27 (tapi_Unit.is find.1) (bk (cv 0))))]), rfl, rfl, rfl, rfl, fun _ => rfl, fun _ _ => rfl, fun cv => OpR.viaU (OpR.storeB (b := (bk (cv 0))) 8 Try.sizeOf27 (Cellable.is tapi_Unit find.1) rfl (.tmp rfl) (.tmp rfl))⟩, trivial⟩⟩ (fun cv => ?_)
            refine WN.seq ?_
            refine W.sr ?_
            refine WL.mv rfl rfl ?_
            refine WL.ns ?_
            refine W.cond (.tmp rfl) (fun hc15 => ?_) (fun hc15 => ?_)
            · have hp16 := hc15
              rw [if_pos hp16] at hm
              refine W.seq ?_
              obtain ⟨v3, hv17, hm⟩ := bind_some hm
              obtain ⟨parent, hv18, hm⟩ := bind_some hm
              refine W.weakR (res' := [(4, (Bx 3 true 23 (tapi_Id.is v) b)), (8, (Bx 8 true 27 (tapi_Unit.is find.1) (bk (cv 0))))]) ⟨rfl, rfl, ⟨rfl, rfl, trivial⟩⟩ ?_
              refine W.drawM [.c ((tL tapi_Unit).ptr u.Kids), .c ((tL tapi_Unit).is u.Kids), .c ((tI .i64).is i), .c (tapi_Unit.ptr v3), .c (tapi_Unit.is v3), .c (tapi_Id.is id), .c (Asn.tuple3 (tapi_Id.is parent.1) ((tI .i64).is parent.2.1) (tB.is parent.2.2)), .c (tapi_Id.is parent.1), .c ((tI .i64).is parent.2.1), .c (tB.is parent.2.2), .c Asn.any, .c ((tI .i64).is parent.2.1), .c (tB.is parent.2.2)] [([], [2]), ([0], []), ([], [7]), ([1, 2], []), ([3], []), ([], [3]), ([4, 5], []), ([6], []), ([6], []), ([6], []), ([7], [4]), ([8], []), ([9], [])] [10] [[], [], [], [], [], [], [], [], [], [], [], [], []] (fun m cv1 => match m with | 0 => [(4, (Bx 3 true 23 (tapi_Id.is v) b)), (8, (Bx 8 true 27 (tapi_Unit.is find.1) (bk (cv 0))))] | _ => [(4, (Bx 3 true 23 (tapi_Id.is parent.1) b)), (8, (Bx 8 true 27 (tapi_Unit.is find.1) (bk (cv 0))))]) (fun _ => none) Try.mixed rfl rfl rfl rfl rfl ⟨fun _ _ _ _ => rfl, ⟨fun _ _ _ _ => rfl, ⟨fun _ _ _ _ => rfl, ⟨fun _ _ _ _ => rfl, ⟨fun _ _ _ _ => rfl, ⟨fun _ _ _ _ => rfl, ⟨fun _ _ _ _ => rfl, ⟨fun _ _ _ _ => rfl, ⟨fun _ _ _ _ => rfl, ⟨fun _ _ _ _ => rfl, ⟨fun _ _ _ _ => rfl, ⟨fun _ _ _ _ => rfl, ⟨fun _ _ _ _ => rfl, trivial⟩⟩⟩⟩⟩⟩⟩⟩⟩⟩⟩⟩⟩ rfl ⟨.inr ⟨fun cv1 => [], (fun _ _ _ _ => trivial), fun cv1 => Op1.fieldAddr Try.underlying27 rfl (fun w => ⟨0, Try.sizeOf25 w⟩) fapi_Unit_5 (.tmp rfl)⟩, ⟨.inr ⟨fun cv1 => [], (fun _ _ _ _ => trivial), fun cv1 => Op1.load ty25 (.tmp rfl)⟩, ⟨.inr ⟨fun cv1 => [], (fun _ _ _ _ => trivial), fun cv1 => Op1.move (.tmp rfl)⟩, ⟨.inr ⟨fun cv1 => [], (fun _ _ _ _ => trivial), fun cv1 => Op1.idx hv17 Try.underlying25 Try.sizeOf27 (.tmp rfl) (.tmp rfl)⟩, ⟨.inr ⟨fun cv1 => [], (fun _ _ _ _ => trivial), fun cv1 => Op1.load ty27 (.tmp rfl)⟩, ⟨.inr ⟨fun cv1 => [], (fun _ _ _ _ => trivial), fun cv1 => Op1.load ty23 (.tmp rfl)⟩, ⟨.inr ⟨fun cv1 => [], (fun _ _ _ _ => trivial), fun cv1 => Op1.call Try.call16 (ih _ _ _ hv18) ⟨(.tmp rfl), (.tmp rfl), trivial⟩⟩, ⟨.inr ⟨fun cv1 => [], (fun _ _ _ _ => trivial), fun cv1 => Op1.extract30 (.tmp rfl)⟩, ⟨.inr ⟨fun cv1 => [], (fun _ _ _ _ => trivial), fun cv1 => Op1.extract31 (.tmp rfl)⟩, ⟨.inr ⟨fun cv1 => [], (fun _ _ _ _ => trivial), fun cv1 => Op1.extract32 (.tmp rfl)⟩, ⟨.inl rfl, ⟨.inr ⟨fun cv1 => [], (fun _ _ _ _ => trivial), fun cv1 => Op1.assign (.tmp rfl)⟩, ⟨.inr ⟨fun cv1 => [], (fun _ _ _ _ => trivial), fun cv1 => Op1.assign (.tmp rfl)⟩, trivial⟩⟩⟩⟩⟩⟩⟩⟩⟩⟩⟩⟩⟩ ⟨⟨_, _, _, [4], (fun cv1 => [(4, (Bx 3 true 23 (tapi_Id.is parent.1) b))]), rfl, rfl, rfl, rfl, fun _ => rfl, fun _ _ => rfl, fun cv1 => OpR.viaU (OpR.storeB (b := b) 4 Try.sizeOf23 (Cellable.is tapi_Id parent.1) rfl (.tmp rfl) (.tmp rfl))⟩, trivial⟩ (fun cv1 => ?_)
              refine WN.seq ?_
              have hr19 := Option.some.inj hm
              clear hm
              subst hr19
              have hm := hk5
              try dsimp only at hm
              cases hm
              exact W.retQ3 () rfl rfl (ResAt.cell 4 Try.isAgg23 Try.sizeOf23 rfl (.tmp rfl)) (ResAt.tmp (.tmp rfl)) (ResAt.tmp (.tmp rfl)) trivial
            · have hp16 := ne_of_false hc15
              rw [if_neg hp16] at hm
              refine W.skip ?_
              refine WN.block ?_
              refine WN.seq ?_
              refine W.region ?_
              refine WL.mv rfl rfl ?_
              refine WL.lenL (s := 17) (.tmp rfl) fun hl20 => ?_
              refine WL.op rfl (Op1.addI1 (.tmp rfl) (.int (inR64.2 (by omega))) hp8 hl20) ?_
              refine WL.gv rfl rfl ?_
              refine WL.nil ?_
              exact WN.again n6 (i + 1, v) (Nat.lt_succ_self n6) hm ⟨Ent.q rfl, Ent.q rfl, Ent.q rfl, Ent.q rfl, trivial⟩ ⟨rfl, rfl, trivial⟩
        · have hp8 := of_decide_eq_false hc7
          rw [if_neg hp8] at hm
          refine W.exit rfl ?_
          have hr21 := Option.some.inj hm
          clear hm
          subst hr21
          have hm := hk5
          try dsimp only at hm
          refine WN.seq ?_
          refine W.sr ?_
          refine WL.op rfl (Op1.build (s := tapi_Id) (x := (⟨(0 : Int), (0 : Int), (0 : Int)⟩ : api_Id)) zapi_Id_f rfl Try.underlying23 (zapi_Id_sz _ Try.underlying23) ze23 rfl) ?_
          refine WL.opU (OpR.storeB (b := b) 4 Try.sizeOf23 (Cellable.is tapi_Id (⟨(0 : Int), (0 : Int), (0 : Int)⟩ : api_Id)) rfl (.tmp rfl) (.tmp rfl)) (fun _ => ?_)
          refine WL.op rfl (Op1.assign (.int (inR64.2 (by omega)))) ?_
          refine WL.op rfl (Op1.assign .bool) ?_
          refine WL.ns ?_
          cases hm
          exact W.retQ3 () rfl rfl (ResAt.cell 4 Try.isAgg23 Try.sizeOf23 rfl (.tmp rfl)) (ResAt.tmp (.tmp rfl)) (ResAt.tmp (.tmp rfl)) trivial

theorem r21_Where_spec (n : Nat) (u : api_Unit) (p : List api_Step) (where0_ : Int) (r : api_Id × Int × Int) (hm : M.r21_Where n u p where0_ = some r) : FSpec Try.prog 12 [(tapi_Unit.is u), ((tL tapi_Step).is p), ((tI .i64).is where0_)] (Asn.tuple3 (tapi_Id.is r.1) ((tI .i64).is r.2.1) ((tI .i64).is r.2.2)) := by
  unfold M.r21_Where at hm
  refine FSpec.of Try.func12 rfl rfl rfl (fun g0 => ?_)
  refine W.sr ?_
  refine WL.op rfl (Op1.box (.tmp rfl)) ?_
  refine WL.opR rfl (OpR.alloc 6 ze23) (fun b => ?_)
  refine WL.op rfl (Op1.assign (.int (inR64.2 (by omega)))) ?_
  refine WL.op rfl (Op1.assign (.int (inR64.2 (by omega)))) ?_
  refine WL.ns ?_
  refine W.seq ?_
  obtain ⟨s1, hs2, hk3⟩ := bind_some hm
  clear hm
  refine W.join (fun s : Bool => s = s1) (fun s => [(21, (tB.is s)), (1, ((tL tapi_Step).is p)), (2, ((tI .i64).is where0_)), (3, (tapi_Unit.ptr u)), (6, (Bp b 0))]) (fun s => [(6, (Bx 3 true 23 (tapi_Id.is zapi_Id) b))]) ?_ ?_
  · rintro v hj22
    try dsimp only at hj22
    subst hj22
    have hm := hk3
    clear hk3
    try dsimp only at hm
    change W _ _ _ _ _ _ _ [(21, (tB.is v)), (1, ((tL tapi_Step).is p)), (2, ((tI .i64).is where0_)), (3, (tapi_Unit.ptr u)), (6, (Bp b 0))] [(6, (Bx 3 true 23 (tapi_Id.is zapi_Id) b))]
    refine W.cond (.tmp rfl) (fun hc6 => ?_) (fun hc6 => ?_)
    · have hp7 := hc6
      rw [if_pos hp7] at hm
      refine W.sr ?_
      refine WL.op rfl (Op1.build (s := tapi_Id) (x := (⟨(0 : Int), (0 : Int), (0 : Int)⟩ : api_Id)) zapi_Id_f rfl Try.underlying23 (zapi_Id_sz _ Try.underlying23) ze23 rfl) ?_
      refine WL.opU (OpR.storeB (b := b) 6 Try.sizeOf23 (Cellable.is tapi_Id (⟨(0 : Int), (0 : Int), (0 : Int)⟩ : api_Id)) rfl (.tmp rfl) (.tmp rfl)) (fun _ => ?_)
      refine WL.op rfl (Op1.assign (.int (inR64.2 (by omega)))) ?_
      refine WL.op rfl (Op1.assign (.int (inR64.2 (by omega)))) ?_
      refine WL.ns ?_
      cases hm
      exact W.retQ3 () rfl rfl (ResAt.cell 6 Try.isAgg23 Try.sizeOf23 rfl (.tmp rfl)) (ResAt.tmp (.tmp rfl)) (ResAt.tmp (.tmp rfl)) trivial
    · have hp7 := ne_of_false hc6
      rw [if_neg hp7] at hm
      refine W.skip ?_
      refine WN.seq ?_
      refine W.sr ?_
      refine WL.op rfl (Op1.load ty27 (.tmp rfl)) ?_
      refine WL.mv rfl rfl ?_
      obtain ⟨one, hv8, hm⟩ := bind_some hm
      refine WL.op rfl (Op1.call Try.call18 (r07_One_spec _ _ _ _ hv8) ⟨(.tmp rfl), (.tmp rfl), trivial⟩) ?_
      refine WL.mv rfl rfl ?_
      refine WL.op rfl (Op1.extract0 (.tmp rfl)) ?_
      refine WL.op rfl (Op1.extract1 (.tmp rfl)) ?_
      refine WL.opR rfl (OpR.alloc 9 ze23) (fun b1 => ?_)
      refine WL.opU (OpR.storeB (b := b1) 9 Try.sizeOf23 (Cellable.is tapi_Id one.1) rfl (.tmp rfl) (.tmp rfl)) (fun _ => ?_)
      refine WL.sealed (t := tapi_Id) (u := one.1) 9 9 rfl rfl ?_
      refine WL.gv rfl rfl ?_
      refine WL.ns ?_
      refine W.seq ?_
      refine W.sr ?_
      refine WL.mv rfl rfl ?_
      refine WL.op rfl (Op1.neI (.tmp rfl) (.int (inR64.2 (by omega)))) ?_
      refine WL.ns ?_
      refine W.cond (.tmp rfl) (fun hc9 => ?_) (fun hc9 => ?_)
      · have hp10 := of_decide_eq_true hc9
        rw [if_pos hp10] at hm
        refine W.sr ?_
        refine WL.op rfl (Op1.build (s := tapi_Id) (x := (⟨(0 : Int), (0 : Int), (0 : Int)⟩ : api_Id)) zapi_Id_f rfl Try.underlying23 (zapi_Id_sz _ Try.underlying23) ze23 rfl) ?_
        refine WL.mv rfl rfl ?_
        refine WL.opU (OpR.storeB (b := b) 6 Try.sizeOf23 (Cellable.is tapi_Id (⟨(0 : Int), (0 : Int), (0 : Int)⟩ : api_Id)) rfl (.tmp rfl) (.tmp rfl)) (fun _ => ?_)
        refine WL.op rfl (Op1.assign (.int (inR64.2 (by omega)))) ?_
        refine WL.gv rfl rfl ?_
        refine WL.ns ?_
        cases hm
        exact W.retQ3 () rfl rfl (ResAt.cell 6 Try.isAgg23 Try.sizeOf23 rfl (.tmp rfl)) (ResAt.tmp (.tmp rfl)) (ResAt.tmp (.tmp rfl)) trivial
      · have hp10 := of_decide_eq_false hc9
        rw [if_neg hp10] at hm
        refine W.skip ?_
        refine WN.seq ?_
        refine W.sr ?_
        refine WL.op rfl (Op1.load ty27 (.tmp rfl)) ?_
        refine WL.op rfl (Op1.load ty23 (.tmp rfl)) ?_
        obtain ⟨find, hv11, hm⟩ := bind_some hm
        refine WL.op rfl (Op1.call Try.call15 (r06_Find_spec _ _ _ _ hv11) ⟨(.tmp rfl), (.tmp rfl), trivial⟩) ?_
        refine WL.mv rfl rfl ?_
        refine WL.op rfl (Op1.extract0 (.tmp rfl)) ?_
        refine WL.op rfl (Op1.extract1 (.tmp rfl)) ?_
        refine WL.opR rfl (OpR.alloc 11 ze27) (fun b2 => ?_)
        refine WL.opU (OpR.storeB (b := b2) 11 Try.sizeOf27 (Cellable.is tapi_Unit find.1) rfl (.tmp rfl) (.tmp rfl)) (fun _ => ?_)
        refine WL.sealed (t := tapi_Unit) (u := find.1) 11 11 rfl rfl ?_
        refine WL.gv rfl rfl ?_
        refine WL.ns ?_
        refine W.seq ?_
        refine W.sr ?_
        refine WL.mv rfl rfl ?_
        refine WL.op rfl (Op1.eqI (.tmp rfl) (.int (inR64.2 (by omega)))) ?_
        refine WL.ns ?_
        refine W.cond (.tmp rfl) (fun hc12 => ?_) (fun hc12 => ?_)
        · have hp13 := of_decide_eq_true hc12
          rw [if_pos hp13] at hm
          refine W.sr ?_
          refine WL.op rfl (Op1.load ty23 (.tmp rfl)) ?_
          refine WL.opU (OpR.storeB (b := b) 6 Try.sizeOf23 (Cellable.is tapi_Id one.1) rfl (.tmp rfl) (.tmp rfl)) (fun _ => ?_)
          refine WL.op rfl (Op1.assign (.int (inR64.2 (by omega)))) ?_
          refine WL.op rfl (Op1.assign (.int (inR64.2 (by omega)))) ?_
          refine WL.ns ?_
          cases hm
          exact W.retQ3 () rfl rfl (ResAt.cell 6 Try.isAgg23 Try.sizeOf23 rfl (.tmp rfl)) (ResAt.tmp (.tmp rfl)) (ResAt.tmp (.tmp rfl)) trivial
        · have hp13 := of_decide_eq_false hc12
          rw [if_neg hp13] at hm
          refine W.skip ?_
          refine WN.seq ?_
          refine W.seq ?_
          refine W.sr ?_
          refine WL.mv rfl rfl ?_
          refine WL.op rfl (Op1.eqI (.tmp rfl) (.int (inR64.2 (by omega)))) ?_
          refine WL.ns ?_
          refine W.cond (.tmp rfl) (fun hc14 => ?_) (fun hc14 => ?_)
          · have hp15 := of_decide_eq_true hc14
            rw [if_pos hp15] at hm
            refine W.seq ?_
            refine W.weakR (res' := [(6, (Bx 3 true 23 (tapi_Id.is zapi_Id) b))]) ⟨rfl, rfl, trivial⟩ ?_
            refine W.drawM [.c (tapi_Id.is one.1), .c ((tL tapi_Unit).ptr find.1.Kids), .c ((tL tapi_Unit).is find.1.Kids), .c ((tI .i64).is (find.1.Kids.length : Int)), .c Asn.any, .c ((tI .i64).is (find.1.Kids.length : Int)), .c ((tI .i64).is (0 : Int))] [([], [9]), ([], [11]), ([1], []), ([2], []), ([0], [6]), ([3], []), ([], [])] [4] [[], [], [], [], [], [], []] (fun m cv => match m with | 0 => [(6, (Bx 3 true 23 (tapi_Id.is zapi_Id) b))] | _ => [(6, (Bx 3 true 23 (tapi_Id.is one.1) b))]) (fun _ => none) Try.mixed rfl rfl rfl rfl rfl ⟨fun _ _ _ _ => rfl, ⟨fun _ _ _ _ => rfl, ⟨fun _ _ _ _ => rfl, ⟨fun _ _ _ _ => rfl, ⟨fun _ _ _ _ => rfl, ⟨fun _ _ _ _ => rfl, ⟨fun _ _ _ _ => rfl, trivial⟩⟩⟩⟩⟩⟩⟩ rfl ⟨.inr ⟨fun cv => [], (fun _ _ _ _ => trivial), fun cv => Op1.load ty23 (.tmp rfl)⟩, ⟨.inr ⟨fun cv => [], (fun _ _ _ _ => trivial), fun cv => Op1.fieldAddr Try.underlying27 rfl (fun w => ⟨0, Try.sizeOf25 w⟩) fapi_Unit_5 (.tmp rfl)⟩, ⟨.inr ⟨fun cv => [], (fun _ _ _ _ => trivial), fun cv => Op1.load ty25 (.tmp rfl)⟩, ⟨.inr ⟨fun cv => [], (fun _ _ _ _ => trivial), fun cv => Op1.lenL Try.underlying25 (.tmp rfl)⟩, ⟨.inl rfl, ⟨.inr ⟨fun cv => [], (fun _ _ _ _ => trivial), fun cv => Op1.assign (.tmp rfl)⟩, ⟨.inr ⟨fun cv => [], (fun _ _ _ _ => trivial), fun cv => Op1.assign (.int (inR64.2 (by omega)))⟩, trivial⟩⟩⟩⟩⟩⟩⟩ ⟨⟨_, _, _, [6], (fun cv => [(6, (Bx 3 true 23 (tapi_Id.is one.1) b))]), rfl, rfl, rfl, rfl, fun _ => rfl, fun _ _ => rfl, fun cv => OpR.viaU (OpR.storeB (b := b) 6 Try.sizeOf23 (Cellable.is tapi_Id one.1) rfl (.tmp rfl) (.tmp rfl))⟩, trivial⟩ (fun cv => ?_)
            refine WN.seq ?_
            cases hm
            exact W.retQ3 () rfl rfl (ResAt.cell 6 Try.isAgg23 Try.sizeOf23 rfl (.tmp rfl)) (ResAt.tmp (.tmp rfl)) (ResAt.tmp (.tmp rfl)) trivial
          · have hp15 := of_decide_eq_false hc14
            rw [if_neg hp15] at hm
            refine W.skip ?_
            refine WN.seq ?_
            refine W.seq ?_
            refine W.sr ?_
            refine WL.op rfl (Op1.load ty23 (.tmp rfl)) ?_
            refine WL.op rfl (Op1.fieldAddr Try.underlying27 rfl (fun w => ⟨2, Try.sizeOf23 w⟩) fapi_Unit_0 (.tmp rfl)) ?_
            refine WL.op rfl (Op1.load ty23 (.tmp rfl)) ?_
            refine WL.op rfl (Op1.eqSt (D := 2) rfl (by decide) eg23 eq23 (.tmp rfl) (.tmp rfl)) ?_
            refine WL.ns ?_
            refine W.cond (.tmp rfl) (fun hc16 => ?_) (fun hc16 => ?_)
            · have hp17 := of_decide_eq_true hc16
              rw [if_pos hp17] at hm
              refine W.sr ?_
              refine WL.op rfl (Op1.build (s := tapi_Id) (x := (⟨(0 : Int), (0 : Int), (0 : Int)⟩ : api_Id)) zapi_Id_f rfl Try.underlying23 (zapi_Id_sz _ Try.underlying23) ze23 rfl) ?_
              refine WL.opU (OpR.storeB (b := b) 6 Try.sizeOf23 (Cellable.is tapi_Id (⟨(0 : Int), (0 : Int), (0 : Int)⟩ : api_Id)) rfl (.tmp rfl) (.tmp rfl)) (fun _ => ?_)
              refine WL.op rfl (Op1.assign (.int (inR64.2 (by omega)))) ?_
              refine WL.op rfl (Op1.assign (.int (inR64.2 (by omega)))) ?_
              refine WL.ns ?_
              cases hm
              exact W.retQ3 () rfl rfl (ResAt.cell 6 Try.isAgg23 Try.sizeOf23 rfl (.tmp rfl)) (ResAt.tmp (.tmp rfl)) (ResAt.tmp (.tmp rfl)) trivial
            · have hp17 := of_decide_eq_false hc16
              rw [if_neg hp17] at hm
              refine W.skip ?_
              refine WN.seq ?_
              refine W.sr ?_
              refine WL.op rfl (Op1.load ty27 (.tmp rfl)) ?_
              refine WL.op rfl (Op1.load ty23 (.tmp rfl)) ?_
              obtain ⟨parent, hv18, hm⟩ := bind_some hm
              refine WL.op rfl (Op1.call Try.call16 (r06_Parent_spec _ _ _ _ hv18) ⟨(.tmp rfl), (.tmp rfl), trivial⟩) ?_
              refine WL.mv rfl rfl ?_
              refine WL.op rfl (Op1.extract30 (.tmp rfl)) ?_
              refine WL.op rfl (Op1.extract31 (.tmp rfl)) ?_
              refine WL.op rfl (Op1.extract32 (.tmp rfl)) ?_
              refine WL.opR rfl (OpR.alloc 13 ze23) (fun b3 => ?_)
              refine WL.opU (OpR.storeB (b := b3) 13 Try.sizeOf23 (Cellable.is tapi_Id parent.1) rfl (.tmp rfl) (.tmp rfl)) (fun _ => ?_)
              refine WL.sealed (t := tapi_Id) (u := parent.1) 13 13 rfl rfl ?_
              refine WL.gv rfl rfl ?_
              refine WL.gv rfl rfl ?_
              refine WL.ns ?_
              refine W.seq ?_
              refine W.sr ?_
              refine WL.mv rfl rfl ?_
              refine WL.op rfl (Op1.eqI (.tmp rfl) (.int (inR64.2 (by omega)))) ?_
              refine WL.ns ?_
              refine W.cond (.tmp rfl) (fun hc19 => ?_) (fun hc19 => ?_)
              · have hp20 := of_decide_eq_true hc19
                rw [if_pos hp20] at hm
                refine W.region ?_
                refine WL.mv rfl rfl ?_
                obtain ⟨v1, hv21, hm⟩ := bind_some hm
                refine WL.op rfl (Op1.addC hv21 (.tmp rfl) (.int (inR64.2 (by omega)))) ?_
                refine WL.gv rfl rfl ?_
                refine WL.nr ?_
                refine WL.op rfl (Op1.load ty23 (.tmp rfl)) ?_
                refine WL.mv rfl rfl ?_
                refine WL.opU (OpR.storeB (b := b) 6 Try.sizeOf23 (Cellable.is tapi_Id parent.1) rfl (.tmp rfl) (.tmp rfl)) (fun _ => ?_)
                refine WL.gv rfl rfl ?_
                refine WL.op rfl (Op1.assign (.int (inR64.2 (by omega)))) ?_
                refine WL.ns ?_
                cases hm
                exact W.retQ3 () rfl rfl (ResAt.cell 6 Try.isAgg23 Try.sizeOf23 rfl (.tmp rfl)) (ResAt.tmp (.tmp rfl)) (ResAt.tmp (.tmp rfl)) trivial
              · have hp20 := of_decide_eq_false hc19
                rw [if_neg hp20] at hm
                refine W.skip ?_
                refine WN.seq ?_
                refine W.sr ?_
                refine WL.op rfl (Op1.load ty23 (.tmp rfl)) ?_
                refine WL.mv rfl rfl ?_
                refine WL.opU (OpR.storeB (b := b) 6 Try.sizeOf23 (Cellable.is tapi_Id parent.1) rfl (.tmp rfl) (.tmp rfl)) (fun _ => ?_)
                refine WL.gv rfl rfl ?_
                refine WL.op rfl (Op1.assign (.int (inR64.2 (by omega)))) ?_
                refine WL.ns ?_
                cases hm
                exact W.retQ3 () rfl rfl (ResAt.cell 6 Try.isAgg23 Try.sizeOf23 rfl (.tmp rfl)) (ResAt.tmp (.tmp rfl)) (ResAt.tmp (.tmp rfl)) trivial
  · have hm := hs2
    clear hs2
    refine W.region ?_
    refine WL.mv rfl rfl ?_
    refine WL.op rfl (Op1.ltI (.tmp rfl) (.int (inR64.2 (by omega)))) ?_
    refine WL.mv rfl rfl ?_
    rcases bcases (decide (where0_ < (0 : Int))) with hb4 | hb4
    · have hp5 := of_decide_eq_true hb4
      rw [if_pos hp5] at hm
      refine WL.pass rfl rfl rfl rfl hb4 rfl rfl ?_
      refine WL.pass rfl rfl rfl rfl hb4 rfl rfl ?_
      refine WL.op rfl (Op1.pickT (.tmp rfl) hb4 .bool) ?_
      refine WL.nil ?_
      exact WN.meet true (Option.some.inj hm) ⟨Ent.q rfl, Ent.q rfl, Ent.q rfl, Ent.q rfl, Ent.q rfl, trivial⟩ ⟨rfl, rfl, trivial⟩
    · have hp5 := of_decide_eq_false hb4
      rw [if_neg hp5] at hm
      refine WL.run rfl rfl rfl rfl hb4 rfl rfl (Op1.move (.tmp rfl)) ?_
      refine WL.run rfl rfl rfl rfl hb4 rfl rfl (Op1.gtI (.tmp rfl) (.int (inR64.2 (by omega)))) ?_
      refine WL.op rfl (Op1.pickF (.tmp rfl) hb4 (.tmp rfl)) ?_
      refine WL.nil ?_
      exact WN.meet (decide ((3 : Int) < where0_)) (Option.some.inj hm) ⟨Ent.q rfl, Ent.q rfl, Ent.q rfl, Ent.q rfl, Ent.q rfl, trivial⟩ ⟨rfl, rfl, trivial⟩

theorem law21_TargetInsertionPoint_spec (n : Nat) (u : api_Unit) (p : List api_Step) (where0_ : Int) (r : Bool) (hm : M.law21_TargetInsertionPoint n u p where0_ = some r) : FSpec Try.prog 3 [(tapi_Unit.is u), ((tL tapi_Step).is p), ((tI .i64).is where0_)] (tB.is r) := by
  unfold M.law21_TargetInsertionPoint at hm
  refine FSpec.of Try.func3 rfl rfl rfl (fun g0 => ?_)
  refine W.sr ?_
  refine WL.op rfl (Op1.box (.tmp rfl)) ?_
  refine WL.op rfl (Op1.assign .bool) ?_
  refine WL.ns ?_
  refine W.seq ?_
  refine W.sr ?_
  obtain ⟨awake, hv1, hm⟩ := bind_some hm
  refine WL.op rfl (Op1.call Try.call8 (law21_awake_spec _ _ hv1) trivial) ?_
  refine WL.op rfl (Op1.notB (.tmp rfl)) ?_
  refine WL.ns ?_
  refine W.cond (.tmp rfl) (fun hc2 => ?_) (fun hc2 => ?_)
  · have hp3 := not_pos hc2
    rw [if_pos hp3] at hm
    refine W.sr ?_
    refine WL.op rfl (Op1.assign .bool) ?_
    refine WL.ns ?_
    cases hm
    exact W.ret1 () rfl (.tmp rfl) trivial
  · have hp3 := not_neg hc2
    rw [if_neg hp3] at hm
    refine W.skip ?_
    refine WN.seq ?_
    refine W.seq ?_
    obtain ⟨s4, hs5, hk6⟩ := bind_some hm
    clear hm
    refine W.join (fun s : Bool => s = s4) (fun s => [(23, (tB.is s)), (1, ((tL tapi_Step).is p)), (2, ((tI .i64).is where0_)), (3, (tapi_Unit.ptr u))]) (fun s => []) ?_ ?_
    · rintro v hj19
      try dsimp only at hj19
      subst hj19
      have hm := hk6
      clear hk6
      try dsimp only at hm
      change W _ _ _ _ _ _ _ [(23, (tB.is v)), (1, ((tL tapi_Step).is p)), (2, ((tI .i64).is where0_)), (3, (tapi_Unit.ptr u))] []
      refine W.cond (.tmp rfl) (fun hc11 => ?_) (fun hc11 => ?_)
      · have hp12 := hc11
        rw [if_pos hp12] at hm
        refine W.sr ?_
        refine WL.op rfl (Op1.assign .bool) ?_
        refine WL.ns ?_
        cases hm
        exact W.ret1 () rfl (.tmp rfl) trivial
      · have hp12 := ne_of_false hc11
        rw [if_neg hp12] at hm
        refine W.skip ?_
        refine WN.seq ?_
        refine W.sr ?_
        refine WL.op rfl (Op1.load ty27 (.tmp rfl)) ?_
        refine WL.mv rfl rfl ?_
        refine WL.mv rfl rfl ?_
        obtain ⟨insert, hv13, hm⟩ := bind_some hm
        refine WL.op rfl (Op1.call Try.call11 (target_InsertionPoint_spec _ _ _ _ _ hv13) ⟨(.tmp rfl), (.tmp rfl), (.tmp rfl), trivial⟩) ?_
        refine WL.mv rfl rfl ?_
        refine WL.op rfl (Op1.extract30 (.tmp rfl)) ?_
        refine WL.op rfl (Op1.extract31 (.tmp rfl)) ?_
        refine WL.op rfl (Op1.extract32 (.tmp rfl)) ?_
        refine WL.opR rfl (OpR.alloc 7 ze23) (fun b => ?_)
        refine WL.opU (OpR.storeB (b := b) 7 Try.sizeOf23 (Cellable.is tapi_Id insert.1) rfl (.tmp rfl) (.tmp rfl)) (fun _ => ?_)
        refine WL.sealed (t := tapi_Id) (u := insert.1) 7 7 rfl rfl ?_
        refine WL.gv rfl rfl ?_
        refine WL.gv rfl rfl ?_
        refine WL.nr ?_
        refine WL.op rfl (Op1.load ty27 (.tmp rfl)) ?_
        refine WL.mv rfl rfl ?_
        refine WL.mv rfl rfl ?_
        obtain ⟨where0_1, hv14, hm⟩ := bind_some hm
        refine WL.op rfl (Op1.call Try.call12 (r21_Where_spec _ _ _ _ _ hv14) ⟨(.tmp rfl), (.tmp rfl), (.tmp rfl), trivial⟩) ?_
        refine WL.mv rfl rfl ?_
        refine WL.op rfl (Op1.extract30 (.tmp rfl)) ?_
        refine WL.op rfl (Op1.extract31 (.tmp rfl)) ?_
        refine WL.op rfl (Op1.extract32 (.tmp rfl)) ?_
        refine WL.opR rfl (OpR.alloc 10 ze23) (fun b1 => ?_)
        refine WL.opU (OpR.storeB (b := b1) 10 Try.sizeOf23 (Cellable.is tapi_Id where0_1.1) rfl (.tmp rfl) (.tmp rfl)) (fun _ => ?_)
        refine WL.sealed (t := tapi_Id) (u := where0_1.1) 10 10 rfl rfl ?_
        refine WL.gv rfl rfl ?_
        refine WL.gv rfl rfl ?_
        refine WL.nr ?_
        refine WL.op rfl (Op1.load ty23 (.tmp rfl)) ?_
        refine WL.op rfl (Op1.load ty23 (.tmp rfl)) ?_
        refine WL.op rfl (Op1.eqSt (D := 2) rfl (by decide) eg23 eq23 (.tmp rfl) (.tmp rfl)) ?_
        refine WL.mv rfl rfl ?_
        rcases bcases (decide (insert.1 = where0_1.1)) with hb15 | hb15
        · have hp16 := of_decide_eq_true hb15
          rw [if_pos hp16] at hm
          refine WL.run rfl rfl rfl rfl hb15 rfl rfl (Op1.move (.tmp rfl)) ?_
          refine WL.run rfl rfl rfl rfl hb15 rfl rfl (Op1.move (.tmp rfl)) ?_
          refine WL.run rfl rfl rfl rfl hb15 rfl rfl (Op1.eqI (.tmp rfl) (.tmp rfl)) ?_
          refine WL.op rfl (Op1.pickT (.tmp rfl) hb15 (.tmp rfl)) ?_
          refine WL.mv rfl rfl ?_
          rcases bcases (decide (insert.2.1 = where0_1.2.1)) with hb17 | hb17
          · have hp18 := of_decide_eq_true hb17
            rw [if_pos hp18] at hm
            refine WL.run rfl rfl rfl rfl hb17 rfl rfl (Op1.move (.tmp rfl)) ?_
            refine WL.run rfl rfl rfl rfl hb17 rfl rfl (Op1.move (.tmp rfl)) ?_
            refine WL.run rfl rfl rfl rfl hb17 rfl rfl (Op1.eqI (.tmp rfl) (.tmp rfl)) ?_
            refine WL.op rfl (Op1.pickT (.tmp rfl) hb17 (.tmp rfl)) ?_
            refine WL.gv rfl rfl ?_
            refine WL.ns ?_
            cases hm
            exact W.ret1 () rfl (.tmp rfl) trivial
          · have hp18 := of_decide_eq_false hb17
            rw [if_neg hp18] at hm
            refine WL.pass rfl rfl rfl rfl hb17 rfl rfl ?_
            refine WL.pass rfl rfl rfl rfl hb17 rfl rfl ?_
            refine WL.pass rfl rfl rfl rfl hb17 rfl rfl ?_
            refine WL.op rfl (Op1.pickF (.tmp rfl) hb17 .bool) ?_
            refine WL.gv rfl rfl ?_
            refine WL.ns ?_
            cases hm
            exact W.ret1 () rfl (.tmp rfl) trivial
        · have hp16 := of_decide_eq_false hb15
          rw [if_neg hp16] at hm
          refine WL.pass rfl rfl rfl rfl hb15 rfl rfl ?_
          refine WL.pass rfl rfl rfl rfl hb15 rfl rfl ?_
          refine WL.pass rfl rfl rfl rfl hb15 rfl rfl ?_
          refine WL.op rfl (Op1.pickF (.tmp rfl) hb15 .bool) ?_
          refine WL.mv rfl rfl ?_
          refine WL.pass rfl rfl rfl rfl rfl rfl rfl ?_
          refine WL.pass rfl rfl rfl rfl rfl rfl rfl ?_
          refine WL.pass rfl rfl rfl rfl rfl rfl rfl ?_
          refine WL.op rfl (Op1.pickF (.tmp rfl) rfl .bool) ?_
          refine WL.gv rfl rfl ?_
          refine WL.ns ?_
          cases hm
          exact W.ret1 () rfl (.tmp rfl) trivial
    · have hm := hs5
      clear hs5
      refine W.region ?_
      refine WL.op rfl (Op1.load ty27 (.tmp rfl)) ?_
      obtain ⟨book, hv7, hm⟩ := bind_some hm
      refine WL.op rfl (Op1.call Try.call9 (law21_book_spec _ _ _ hv7) ⟨(.tmp rfl), trivial⟩) ?_
      refine WL.op rfl (Op1.notB (.tmp rfl)) ?_
      refine WL.mv rfl rfl ?_
      rcases bcases (!book) with hb8 | hb8
      · have hp9 := not_pos hb8
        rw [if_pos hp9] at hm
        refine WL.pass rfl rfl rfl rfl hb8 rfl rfl ?_
        refine WL.pass rfl rfl rfl rfl hb8 rfl rfl ?_
        refine WL.pass rfl rfl rfl rfl hb8 rfl rfl ?_
        refine WL.pass rfl rfl rfl rfl hb8 rfl rfl ?_
        refine WL.op rfl (Op1.pickT (.tmp rfl) hb8 .bool) ?_
        refine WL.nil ?_
        exact WN.meet true (Option.some.inj hm) ⟨Ent.q rfl, Ent.q rfl, Ent.q rfl, Ent.q rfl, trivial⟩ trivial
      · have hp9 := not_neg hb8
        rw [if_neg hp9] at hm
        refine WL.run rfl rfl rfl rfl hb8 rfl rfl (Op1.move (.tmp rfl)) ?_
        refine WL.run rfl rfl rfl rfl hb8 rfl rfl (Op1.build (s := tapi_Item) (x := (⟨(0 : Int), p, ([] : List api_Step), (0 : Int), (0 : Int), zapi_Unit, ([] : List Str), ([] : List Str), ([] : Str), ([] : Str), zapi_Start, (0 : Int), (0 : Int), (0 : Int), ([] : Str), ([] : List api_Item)⟩ : api_Item)) zapi_Item_f rfl Try.underlying37 (zapi_Item_sz _ Try.underlying37) ze37 ⟨_, (tL tapi_Step), p, _, _, rfl, Try.sizeOf28, (.tmp rfl), sapi_Item_1, rfl⟩) ?_
        obtain ⟨few, hv10, hm⟩ := bind_some hm
        refine WL.run rfl rfl rfl rfl hb8 rfl rfl (Op1.call Try.call10 (r17_Few_spec _ _ _ hv10) ⟨(.tmp rfl), trivial⟩) ?_
        refine WL.run rfl rfl rfl rfl hb8 rfl rfl (Op1.notB (.tmp rfl)) ?_
        refine WL.op rfl (Op1.pickF (.tmp rfl) hb8 (.tmp rfl)) ?_
        refine WL.nil ?_
        exact WN.meet (!few) (Option.some.inj hm) ⟨Ent.q rfl, Ent.q rfl, Ent.q rfl, Ent.q rfl, trivial⟩ trivial

theorem r07_below_spec : ∀ (n : Nat) (u : api_Unit) (id : api_Id) (r : (List api_Step) × Bool), M.r07_below n u id = some r → FSpec Try.prog 33 [(tapi_Unit.is u), (tapi_Id.is id)] (Asn.tuple2 ((tL tapi_Step).is r.1) (tB.is r.2)) := by
  intro n
  induction n with
  | zero => intro u id r hm; cases hm
  | succ n ih =>
    intro u id r hm
    rw [M.r07_below.eq_2] at hm
    refine FSpec.of Try.func33 rfl rfl rfl (fun g0 => ?_)
    refine W.sr ?_
    refine WL.op rfl (Op1.box (.tmp rfl)) ?_
    refine WL.op rfl (Op1.box (.tmp rfl)) ?_
    refine WL.op rfl (Op1.assign (.nil (t := tapi_Step))) ?_
    refine WL.op rfl (Op1.assign .bool) ?_
    refine WL.ns ?_
    refine W.seq ?_
    refine W.sr ?_
    refine WL.op rfl (Op1.fieldAddr Try.underlying27 rfl (fun w => ⟨2, Try.sizeOf23 w⟩) fapi_Unit_0 (.tmp rfl)) ?_
    refine WL.op rfl (Op1.load ty23 (.tmp rfl)) ?_
    refine WL.op rfl (Op1.load ty23 (.tmp rfl)) ?_
    refine WL.op rfl (Op1.eqSt (D := 2) rfl (by decide) eg23 eq23 (.tmp rfl) (.tmp rfl)) ?_
    refine WL.ns ?_
    refine W.cond (.tmp rfl) (fun hc1 => ?_) (fun hc1 => ?_)
    · have hp2 := of_decide_eq_true hc1
      rw [if_pos hp2] at hm
      refine W.sr ?_
      refine WL.op rfl (Op1.buildSlice (n := 0) (ys := []) (z := zapi_Step) (xs := ([] : List api_Step)) Try.underlying28 el63 ze63 trivial (by simp) (by decide) rfl) ?_
      refine WL.gv rfl rfl ?_
      refine WL.op rfl (Op1.assign .bool) ?_
      refine WL.ns ?_
      cases hm
      exact W.ret2 () rfl rfl (.tmp rfl) (.tmp rfl) trivial
    · have hp2 := of_decide_eq_false hc1
      rw [if_neg hp2] at hm
      refine W.skip ?_
      refine WN.seq ?_
      refine W.seq ?_
      refine W.sr ?_
      refine WL.op rfl (Op1.assign (.int (inR64.2 (by omega)))) ?_
      refine WL.ns ?_
      refine W.block ?_
      obtain ⟨s3, hs4, hk5⟩ := bind_some hm
      clear hm
      refine W.loop (fun m (s : Int) => M.r07_below_loop1 u id (M.r07_below n) m s = some s3) (fun s => [(6, ((tI .i64).is s)), (2, (tapi_Unit.ptr u)), (3, (tapi_Id.ptr id))]) (fun s => []) _ (0 : Int) hs4 ⟨Ent.q rfl, Ent.q rfl, Ent.q rfl, trivial⟩ trivial ?_
      rintro n6 i hm
      try dsimp only at hm
      change W _ _ _ _ _ _ _ [(6, ((tI .i64).is i)), (2, (tapi_Unit.ptr u)), (3, (tapi_Id.ptr id))] []
      cases n6 with
      | zero => rw [M.r07_below_loop1.eq_1] at hm; cases hm
      | succ n6 =>
        rw [M.r07_below_loop1.eq_2] at hm
        refine W.seq ?_
        refine W.sr ?_
        refine WL.mv rfl rfl ?_
        refine WL.op rfl (Op1.fieldAddr Try.underlying27 rfl (fun w => ⟨0, Try.sizeOf25 w⟩) fapi_Unit_5 (.tmp rfl)) ?_
        refine WL.op rfl (Op1.load ty25 (.tmp rfl)) ?_
        refine WL.op rfl (Op1.lenL Try.underlying25 (.tmp rfl)) ?_
        refine WL.op rfl (Op1.ltI (.tmp rfl) (.tmp rfl)) ?_
        refine WL.ns ?_
        refine W.cond (.tmp rfl) (fun hc7 => ?_) (fun hc7 => ?_)
        · have hp8 := of_decide_eq_true hc7
          rw [if_pos hp8] at hm
          refine W.skip ?_
          refine WN.seq ?_
          refine W.seq ?_
          refine W.block ?_
          refine W.seq ?_
          obtain ⟨v, hv9, hm⟩ := bind_some hm
          obtain ⟨below, hv10, hm⟩ := bind_some hm
          refine W.weakR (res' := []) trivial ?_
          refine W.drawM [.c ((tL tapi_Unit).ptr u.Kids), .c ((tL tapi_Unit).is u.Kids), .c ((tI .i64).is i), .c (tapi_Unit.ptr v), .c (tapi_Unit.is v), .c (tapi_Id.is id), .c (Asn.tuple2 ((tL tapi_Step).is below.1) (tB.is below.2)), .c (Asn.tuple2 ((tL tapi_Step).is below.1) (tB.is below.2)), .c ((tL tapi_Step).is below.1), .c (tB.is below.2), .c ((tL tapi_Step).is below.1), .c (tB.is below.2)] [([], [2]), ([0], []), ([], [6]), ([1, 2], []), ([3], []), ([], [3]), ([4, 5], []), ([6], []), ([7], []), ([7], []), ([8], []), ([9], [])] [] [[], [], [], [], [], [], [], [], [], [], [], []] (fun m cv => match m with  | _ => []) (fun _ => none) Try.mixed rfl rfl rfl rfl rfl ⟨fun _ _ _ _ => rfl, ⟨fun _ _ _ _ => rfl, ⟨fun _ _ _ _ => rfl, ⟨fun _ _ _ _ => rfl, ⟨fun _ _ _ _ => rfl, ⟨fun _ _ _ _ => rfl, ⟨fun _ _ _ _ => rfl, ⟨fun _ _ _ _ => rfl, ⟨fun _ _ _ _ => rfl, ⟨fun _ _ _ _ => rfl, ⟨fun _ _ _ _ => rfl, ⟨fun _ _ _ _ => rfl, trivial⟩⟩⟩⟩⟩⟩⟩⟩⟩⟩⟩⟩ rfl ⟨.inr ⟨fun cv => [], (fun _ _ _ _ => trivial), fun cv => Op1.fieldAddr Try.underlying27 rfl (fun w => ⟨0, Try.sizeOf25 w⟩) fapi_Unit_5 (.tmp rfl)⟩, ⟨.inr ⟨fun cv => [], (fun _ _ _ _ => trivial), fun cv => Op1.load ty25 (.tmp rfl)⟩, ⟨.inr ⟨fun cv => [], (fun _ _ _ _ => trivial), fun cv => Op1.move (.tmp rfl)⟩, ⟨.inr ⟨fun cv => [], (fun _ _ _ _ => trivial), fun cv => Op1.idx hv9 Try.underlying25 Try.sizeOf27 (.tmp rfl) (.tmp rfl)⟩, ⟨.inr ⟨fun cv => [], (fun _ _ _ _ => trivial), fun cv => Op1.load ty27 (.tmp rfl)⟩, ⟨.inr ⟨fun cv => [], (fun _ _ _ _ => trivial), fun cv => Op1.load ty23 (.tmp rfl)⟩, ⟨.inr ⟨fun cv => [], (fun _ _ _ _ => trivial), fun cv => Op1.call Try.call33 (ih _ _ _ hv10) ⟨(.tmp rfl), (.tmp rfl), trivial⟩⟩, ⟨.inr ⟨fun cv => [], (fun _ _ _ _ => trivial), fun cv => Op1.move (.tmp rfl)⟩, ⟨.inr ⟨fun cv => [], (fun _ _ _ _ => trivial), fun cv => Op1.extract0 (.tmp rfl)⟩, ⟨.inr ⟨fun cv => [], (fun _ _ _ _ => trivial), fun cv => Op1.extract1 (.tmp rfl)⟩, ⟨.inr ⟨fun cv => [], (fun _ _ _ _ => trivial), fun cv => Op1.assign (.tmp rfl)⟩, ⟨.inr ⟨fun cv => [], (fun _ _ _ _ => trivial), fun cv => Op1.assign (.tmp rfl)⟩, trivial⟩⟩⟩⟩⟩⟩⟩⟩⟩⟩⟩⟩ trivial (fun cv => ?_)
          refine WN.seq ?_
          refine W.sr ?_
          refine WL.mv rfl rfl ?_
          refine WL.ns ?_
          refine W.cond (.tmp rfl) (fun hc11 => ?_) (fun hc11 => ?_)
          · have hp12 := hc11
            rw [if_pos hp12] at hm
            refine W.seq ?_
            obtain ⟨v1, hv13, hm⟩ := bind_some hm
            obtain ⟨v2, hv14, hm⟩ := bind_some hm
            obtain ⟨out, hv15, hm⟩ := bind_some hm
            refine W.weakR (res' := []) trivial ?_
            refine W.drawM [.c ((tL tapi_Unit).ptr u.Kids), .c ((tL tapi_Unit).is u.Kids), .c ((tI .i64).is i), .c (tapi_Unit.ptr v1), .c ((tI .i64).ptr v1.Kind), .c ((tI .i64).is v1.Kind), .c ((tL tapi_Unit).ptr u.Kids), .c ((tL tapi_Unit).is u.Kids), .c ((tI .i64).is i), .c (tapi_Unit.ptr v2), .c (tS.ptr v2.Label), .c (tS.is v2.Label), .c (tapi_Step.is (⟨v1.Kind, v2.Label⟩ : api_Step)), .f (fun cv1 => (tO tapi_Step (cv1 0) [(⟨v1.Kind, v2.Label⟩ : api_Step)])), .c ((tL tapi_Step).is below.1), .f (fun cv1 => (tO tapi_Step (cv1 1) out)), .f (fun cv1 => (tO tapi_Step (cv1 1) out)), .c (tB.is true)] [([], [2]), ([0], []), ([], [6]), ([1, 2], []), ([3], []), ([4], []), ([], [2]), ([6], []), ([], [6]), ([7, 8], []), ([9], []), ([10], []), ([5, 11], []), ([12], []), ([], [7]), ([13, 14], []), ([15], []), ([], [])] [13, 15] [[], [], [], [], [], [], [], [], [], [], [], [], [], [true], [], [false, true], [false, true], []] (fun m cv1 => match m with | 0 => [] | 1 => [(45, Own tapi_Step 63 (cv1 0) [(⟨v1.Kind, v2.Label⟩ : api_Step)].length)] | _ => [(45, Own tapi_Step 63 (cv1 1) out.length)]) (fun _ => none) Try.mixed rfl rfl rfl rfl rfl ⟨fun _ _ _ _ => rfl, ⟨fun _ _ _ _ => rfl, ⟨fun _ _ _ _ => rfl, ⟨fun _ _ _ _ => rfl, ⟨fun _ _ _ _ => rfl, ⟨fun _ _ _ _ => rfl, ⟨fun _ _ _ _ => rfl, ⟨fun _ _ _ _ => rfl, ⟨fun _ _ _ _ => rfl, ⟨fun _ _ _ _ => rfl, ⟨fun _ _ _ _ => rfl, ⟨fun _ _ _ _ => rfl, ⟨fun _ _ _ _ => rfl, ⟨fun m hm c t => by simp only [DA.at, upd_dep (r := [true]) (j := 0) rfl hm], ⟨fun _ _ _ _ => rfl, ⟨fun m hm c t => by simp only [DA.at, upd_dep (r := [false, true]) (j := 1) rfl hm], ⟨fun m hm c t => by simp only [DA.at, upd_dep (r := [false, true]) (j := 1) rfl hm], ⟨fun _ _ _ _ => rfl, trivial⟩⟩⟩⟩⟩⟩⟩⟩⟩⟩⟩⟩⟩⟩⟩⟩⟩⟩ rfl ⟨.inr ⟨fun cv1 => [], (fun _ _ _ _ => trivial), fun cv1 => Op1.fieldAddr Try.underlying27 rfl (fun w => ⟨0, Try.sizeOf25 w⟩) fapi_Unit_5 (.tmp rfl)⟩, ⟨.inr ⟨fun cv1 => [], (fun _ _ _ _ => trivial), fun cv1 => Op1.load ty25 (.tmp rfl)⟩, ⟨.inr ⟨fun cv1 => [], (fun _ _ _ _ => trivial), fun cv1 => Op1.move (.tmp rfl)⟩, ⟨.inr ⟨fun cv1 => [], (fun _ _ _ _ => trivial), fun cv1 => Op1.idx hv13 Try.underlying25 Try.sizeOf27 (.tmp rfl) (.tmp rfl)⟩, ⟨.inr ⟨fun cv1 => [], (fun _ _ _ _ => trivial), fun cv1 => Op1.fieldAddr Try.underlying27 rfl (fun w => ⟨0, Try.sizeOf3 w⟩) fapi_Unit_1 (.tmp rfl)⟩, ⟨.inr ⟨fun cv1 => [], (fun _ _ _ _ => trivial), fun cv1 => Op1.load ty3 (.tmp rfl)⟩, ⟨.inr ⟨fun cv1 => [], (fun _ _ _ _ => trivial), fun cv1 => Op1.fieldAddr Try.underlying27 rfl (fun w => ⟨0, Try.sizeOf25 w⟩) fapi_Unit_5 (.tmp rfl)⟩, ⟨.inr ⟨fun cv1 => [], (fun _ _ _ _ => trivial), fun cv1 => Op1.load ty25 (.tmp rfl)⟩, ⟨.inr ⟨fun cv1 => [], (fun _ _ _ _ => trivial), fun cv1 => Op1.move (.tmp rfl)⟩, ⟨.inr ⟨fun cv1 => [], (fun _ _ _ _ => trivial), fun cv1 => Op1.idx hv14 Try.underlying25 Try.sizeOf27 (.tmp rfl) (.tmp rfl)⟩, ⟨.inr ⟨fun cv1 => [], (fun _ _ _ _ => trivial), fun cv1 => Op1.fieldAddr Try.underlying27 rfl (fun w => ⟨0, Try.sizeOf9 w⟩) fapi_Unit_2 (.tmp rfl)⟩, ⟨.inr ⟨fun cv1 => [], (fun _ _ _ _ => trivial), fun cv1 => Op1.load ty9 (.tmp rfl)⟩, ⟨.inr ⟨fun cv1 => [], (fun _ _ _ _ => trivial), fun cv1 => Op1.build (s := tapi_Step) (x := (⟨v1.Kind, v2.Label⟩ : api_Step)) zapi_Step_f rfl Try.underlying63 (zapi_Step_sz _ Try.underlying63) ze63 ⟨_, (tI .i64), v1.Kind, _, _, rfl, Try.sizeOf3, (.tmp rfl), sapi_Step_0, ⟨_, tS, v2.Label, _, _, rfl, Try.sizeOf9, (.tmp rfl), sapi_Step_1, rfl⟩⟩⟩, ⟨.inl rfl, ⟨.inr ⟨fun cv1 => [], (fun _ _ _ _ => trivial), fun cv1 => Op1.move (.tmp rfl)⟩, ⟨.inl rfl, ⟨.inr ⟨fun cv1 => [], (fun _ _ _ _ => trivial), fun cv1 => Op1.assign (.tmp rfl)⟩, ⟨.inr ⟨fun cv1 => [], (fun _ _ _ _ => trivial), fun cv1 => Op1.assign .bool⟩, trivial⟩⟩⟩⟩⟩⟩⟩⟩⟩⟩⟩⟩⟩⟩⟩⟩⟩⟩ ⟨⟨_, _, _, [], (fun cv1 => [(45, Own tapi_Step 63 (cv1 0) [(⟨v1.Kind, v2.Label⟩ : api_Step)].length)]), rfl, rfl, rfl, rfl, fun _ => rfl, fun _ _ => rfl, fun cv1 => OpR.buildSlice (n := 1) (ys := [(0, (⟨v1.Kind, v2.Label⟩ : api_Step))]) (z := zapi_Step) (xs := [(⟨v1.Kind, v2.Label⟩ : api_Step)]) 45 Try.underlying28 el63 ze63 ⟨rfl, (.tmp rfl), trivial⟩ (by simp) (by decide) rfl⟩, ⟨⟨_, _, _, [45], (fun cv1 => [(45, Own tapi_Step 63 (cv1 1) out.length)]), rfl, rfl, rfl, rfl, fun _ => rfl, fun _ _ => rfl, fun cv1 => OpR.appC (key := 45) hv15 Try.underlying28 el63 (.tmp rfl) (.tmp rfl) rfl⟩, trivial⟩⟩ (fun cv1 => ?_)
            refine WN.seq ?_
            have hr16 := Option.some.inj hm
            clear hm
            subst hr16
            have hm := hk5
            try dsimp only at hm
            cases hm
            exact W.ret2 () rfl rfl (Opd.own (.tmp rfl)) (.tmp rfl) trivial
          · have hp12 := ne_of_false hc11
            rw [if_neg hp12] at hm
            refine W.skip ?_
            refine WN.block ?_
            refine WN.seq ?_
            refine W.region ?_
            refine WL.mv rfl rfl ?_
            refine WL.lenL (s := 16) (.tmp rfl) fun hl17 => ?_
            refine WL.op rfl (Op1.addI1 (.tmp rfl) (.int (inR64.2 (by omega))) hp8 hl17) ?_
            refine WL.gv rfl rfl ?_
            refine WL.nil ?_
            exact WN.again n6 (i + 1) (Nat.lt_succ_self n6) hm ⟨Ent.q rfl, Ent.q rfl, Ent.q rfl, trivial⟩ trivial
        · have hp8 := of_decide_eq_false hc7
          rw [if_neg hp8] at hm
          refine W.exit rfl ?_
          have hr18 := Option.some.inj hm
          clear hm
          subst hr18
          have hm := hk5
          try dsimp only at hm
          refine WN.seq ?_
          refine W.sr ?_
          refine WL.op rfl (Op1.assign (.nil (t := tapi_Step))) ?_
          refine WL.op rfl (Op1.assign .bool) ?_
          refine WL.ns ?_
          cases hm
          exact W.ret2 () rfl rfl (.tmp rfl) (.tmp rfl) trivial

theorem r07_Whole_spec (n : Nat) (u : api_Unit) (id : api_Id) (r : (List api_Step) × Bool) (hm : M.r07_Whole n u id = some r) : FSpec Try.prog 14 [(tapi_Unit.is u), (tapi_Id.is id)] (Asn.tuple2 ((tL tapi_Step).is r.1) (tB.is r.2)) := by
  unfold M.r07_Whole at hm
  refine FSpec.of Try.func14 rfl rfl rfl (fun g0 => ?_)
  refine W.sr ?_
  refine WL.op rfl (Op1.box (.tmp rfl)) ?_
  refine WL.op rfl (Op1.box (.tmp rfl)) ?_
  refine WL.op rfl (Op1.assign (.nil (t := tapi_Step))) ?_
  refine WL.op rfl (Op1.assign .bool) ?_
  refine WL.nr ?_
  refine WL.op rfl (Op1.load ty27 (.tmp rfl)) ?_
  refine WL.op rfl (Op1.load ty23 (.tmp rfl)) ?_
  obtain ⟨below, hv1, hm⟩ := bind_some hm
  refine WL.op rfl (Op1.call Try.call33 (r07_below_spec _ _ _ _ hv1) ⟨(.tmp rfl), (.tmp rfl), trivial⟩) ?_
  refine WL.mv rfl rfl ?_
  refine WL.op rfl (Op1.extract0 (.tmp rfl)) ?_
  refine WL.op rfl (Op1.extract1 (.tmp rfl)) ?_
  refine WL.gv rfl rfl ?_
  refine WL.gv rfl rfl ?_
  refine WL.ns ?_
  refine W.seq ?_
  refine W.sr ?_
  refine WL.mv rfl rfl ?_
  refine WL.op rfl (Op1.notB (.tmp rfl)) ?_
  refine WL.ns ?_
  refine W.cond (.tmp rfl) (fun hc2 => ?_) (fun hc2 => ?_)
  · have hp3 := not_pos hc2
    rw [if_pos hp3] at hm
    refine W.sr ?_
    refine WL.op rfl (Op1.assign (.nil (t := tapi_Step))) ?_
    refine WL.op rfl (Op1.assign .bool) ?_
    refine WL.ns ?_
    cases hm
    exact W.ret2 () rfl rfl (.tmp rfl) (.tmp rfl) trivial
  · have hp3 := not_neg hc2
    rw [if_neg hp3] at hm
    refine W.skip ?_
    refine WN.seq ?_
    refine W.sr ?_
    refine WL.op rfl (Op1.build (s := tapi_Step) (x := (⟨(0 : Int), ([] : Str)⟩ : api_Step)) zapi_Step_f rfl Try.underlying63 (zapi_Step_sz _ Try.underlying63) ze63 rfl) ?_
    refine WL.opR rfl (OpR.buildSlice (n := 1) (ys := [(0, (⟨(0 : Int), ([] : Str)⟩ : api_Step))]) (z := zapi_Step) (xs := [(⟨(0 : Int), ([] : Str)⟩ : api_Step)]) 17 Try.underlying28 el63 ze63 ⟨rfl, (.tmp rfl), trivial⟩ (by simp) (by decide) rfl) (fun k => ?_)
    refine WL.mv rfl rfl ?_
    obtain ⟨out, hv4, hm⟩ := bind_some hm
    refine WL.opR rfl (OpR.appC (key := 17) hv4 Try.underlying28 el63 (.tmp rfl) (.tmp rfl) rfl) (fun k1 => ?_)
    refine WL.gv rfl rfl ?_
    refine WL.op rfl (Op1.assign .bool) ?_
    refine WL.ns ?_
    cases hm
    exact W.ret2 () rfl rfl (Opd.own (.tmp rfl)) (.tmp rfl) trivial

theorem law21_TargetFullAddress_spec (n : Nat) (u : api_Unit) (r : Bool) (hm : M.law21_TargetFullAddress n u = some r) : FSpec Try.prog 4 [(tapi_Unit.is u)] (tB.is r) := by
  unfold M.law21_TargetFullAddress at hm
  refine FSpec.of Try.func4 rfl rfl rfl (fun g0 => ?_)
  refine W.sr ?_
  refine WL.op rfl (Op1.box (.tmp rfl)) ?_
  refine WL.op rfl (Op1.assign .bool) ?_
  refine WL.ns ?_
  refine W.seq ?_
  refine W.sr ?_
  obtain ⟨awake, hv1, hm⟩ := bind_some hm
  refine WL.op rfl (Op1.call Try.call8 (law21_awake_spec _ _ hv1) trivial) ?_
  refine WL.op rfl (Op1.notB (.tmp rfl)) ?_
  refine WL.ns ?_
  refine W.cond (.tmp rfl) (fun hc2 => ?_) (fun hc2 => ?_)
  · have hp3 := not_pos hc2
    rw [if_pos hp3] at hm
    refine W.sr ?_
    refine WL.op rfl (Op1.assign .bool) ?_
    refine WL.ns ?_
    cases hm
    exact W.ret1 () rfl (.tmp rfl) trivial
  · have hp3 := not_neg hc2
    rw [if_neg hp3] at hm
    refine W.skip ?_
    refine WN.seq ?_
    refine W.seq ?_
    refine W.sr ?_
    refine WL.op rfl (Op1.load ty27 (.tmp rfl)) ?_
    obtain ⟨book, hv4, hm⟩ := bind_some hm
    refine WL.op rfl (Op1.call Try.call9 (law21_book_spec _ _ _ hv4) ⟨(.tmp rfl), trivial⟩) ?_
    refine WL.op rfl (Op1.notB (.tmp rfl)) ?_
    refine WL.ns ?_
    refine W.cond (.tmp rfl) (fun hc5 => ?_) (fun hc5 => ?_)
    · have hp6 := not_pos hc5
      rw [if_pos hp6] at hm
      refine W.sr ?_
      refine WL.op rfl (Op1.assign .bool) ?_
      refine WL.ns ?_
      cases hm
      exact W.ret1 () rfl (.tmp rfl) trivial
    · have hp6 := not_neg hc5
      rw [if_neg hp6] at hm
      refine W.skip ?_
      refine WN.seq ?_
      refine W.sr ?_
      refine WL.op rfl (Op1.load ty27 (.tmp rfl)) ?_
      obtain ⟨all, hv7, hm⟩ := bind_some hm
      refine WL.op rfl (Op1.call Try.call13 (r06_All_spec _ _ _ hv7) ⟨(.tmp rfl), trivial⟩) ?_
      refine WL.gv rfl rfl ?_
      refine WL.ns ?_
      refine W.seq ?_
      refine W.sr ?_
      refine WL.op rfl (Op1.assign (.int (inR64.2 (by omega)))) ?_
      refine WL.ns ?_
      refine W.block ?_
      obtain ⟨s8, hs9, hk10⟩ := bind_some hm
      clear hm
      refine W.loop (fun m (s : Int) => M.law21_TargetFullAddress_loop1 u all m s = some s8) (fun s => [(4, ((tI .i64).is s)), (1, (tapi_Unit.ptr u)), (3, ((tL tapi_Id).is all))]) (fun s => []) _ (0 : Int) hs9 ⟨Ent.q rfl, Ent.q rfl, Ent.q rfl, trivial⟩ trivial ?_
      rintro n11 i hm
      try dsimp only at hm
      change W _ _ _ _ _ _ _ [(4, ((tI .i64).is i)), (1, (tapi_Unit.ptr u)), (3, ((tL tapi_Id).is all))] []
      cases n11 with
      | zero => rw [M.law21_TargetFullAddress_loop1.eq_1] at hm; cases hm
      | succ n11 =>
        rw [M.law21_TargetFullAddress_loop1.eq_2] at hm
        refine W.seq ?_
        refine W.sr ?_
        refine WL.mv rfl rfl ?_
        refine WL.mv rfl rfl ?_
        refine WL.op rfl (Op1.lenL Try.underlying42 (.tmp rfl)) ?_
        refine WL.op rfl (Op1.ltI (.tmp rfl) (.tmp rfl)) ?_
        refine WL.ns ?_
        refine W.cond (.tmp rfl) (fun hc12 => ?_) (fun hc12 => ?_)
        · have hp13 := of_decide_eq_true hc12
          rw [if_pos hp13] at hm
          refine W.skip ?_
          refine WN.seq ?_
          refine W.seq ?_
          refine W.block ?_
          refine W.seq ?_
          obtain ⟨v, hv14, hm⟩ := bind_some hm
          obtain ⟨whole, hv15, hm⟩ := bind_some hm
          refine W.weakR (res' := []) trivial ?_
          refine W.drawM [.c (tapi_Unit.is u), .c ((tL tapi_Id).is all), .c ((tI .i64).is i), .c (tapi_Id.ptr v), .c (tapi_Id.is v), .c (Asn.tuple2 ((tL tapi_Step).is whole.1) (tB.is whole.2)), .c (Asn.tuple2 ((tL tapi_Step).is whole.1) (tB.is whole.2)), .c ((tL tapi_Step).is whole.1), .c (tB.is whole.2), .c ((tL tapi_Step).is whole.1), .c (tB.is whole.2)] [([], [1]), ([], [3]), ([], [4]), ([1, 2], []), ([3], []), ([0, 4], []), ([5], []), ([6], []), ([6], []), ([7], []), ([8], [])] [] [[], [], [], [], [], [], [], [], [], [], []] (fun m cv => match m with  | _ => []) (fun _ => none) Try.mixed rfl rfl rfl rfl rfl ⟨fun _ _ _ _ => rfl, ⟨fun _ _ _ _ => rfl, ⟨fun _ _ _ _ => rfl, ⟨fun _ _ _ _ => rfl, ⟨fun _ _ _ _ => rfl, ⟨fun _ _ _ _ => rfl, ⟨fun _ _ _ _ => rfl, ⟨fun _ _ _ _ => rfl, ⟨fun _ _ _ _ => rfl, ⟨fun _ _ _ _ => rfl, ⟨fun _ _ _ _ => rfl, trivial⟩⟩⟩⟩⟩⟩⟩⟩⟩⟩⟩ rfl ⟨.inr ⟨fun cv => [], (fun _ _ _ _ => trivial), fun cv => Op1.load ty27 (.tmp rfl)⟩, ⟨.inr ⟨fun cv => [], (fun _ _ _ _ => trivial), fun cv => Op1.move (.tmp rfl)⟩, ⟨.inr ⟨fun cv => [], (fun _ _ _ _ => trivial), fun cv => Op1.move (.tmp rfl)⟩, ⟨.inr ⟨fun cv => [], (fun _ _ _ _ => trivial), fun cv => Op1.idx hv14 Try.underlying42 Try.sizeOf23 (.tmp rfl) (.tmp rfl)⟩, ⟨.inr ⟨fun cv => [], (fun _ _ _ _ => trivial), fun cv => Op1.load ty23 (.tmp rfl)⟩, ⟨.inr ⟨fun cv => [], (fun _ _ _ _ => trivial), fun cv => Op1.call Try.call14 (r07_Whole_spec _ _ _ _ hv15) ⟨(.tmp rfl), (.tmp rfl), trivial⟩⟩, ⟨.inr ⟨fun cv => [], (fun _ _ _ _ => trivial), fun cv => Op1.move (.tmp rfl)⟩, ⟨.inr ⟨fun cv => [], (fun _ _ _ _ => trivial), fun cv => Op1.extract0 (.tmp rfl)⟩, ⟨.inr ⟨fun cv => [], (fun _ _ _ _ => trivial), fun cv => Op1.extract1 (.tmp rfl)⟩, ⟨.inr ⟨fun cv => [], (fun _ _ _ _ => trivial), fun cv => Op1.assign (.tmp rfl)⟩, ⟨.inr ⟨fun cv => [], (fun _ _ _ _ => trivial), fun cv => Op1.assign (.tmp rfl)⟩, trivial⟩⟩⟩⟩⟩⟩⟩⟩⟩⟩⟩ trivial (fun cv => ?_)
          refine WN.seq ?_
          refine W.seq ?_
          obtain ⟨v1, hv16, hm⟩ := bind_some hm
          obtain ⟨find, hv17, hm⟩ := bind_some hm
          refine W.weakR (res' := []) trivial ?_
          refine W.drawM [.c (tapi_Unit.is u), .c ((tL tapi_Id).is all), .c ((tI .i64).is i), .c (tapi_Id.ptr v1), .c (tapi_Id.is v1), .c (Asn.tuple2 (tapi_Unit.is find.1) (tB.is find.2)), .c (Asn.tuple2 (tapi_Unit.is find.1) (tB.is find.2)), .c (tapi_Unit.is find.1), .c (tB.is find.2), .f (fun cv1 => (Bp (bk (cv1 0)) 0)), .c Asn.any, .c (tB.is find.2)] [([], [1]), ([], [3]), ([], [4]), ([1, 2], []), ([3], []), ([0, 4], []), ([5], []), ([6], []), ([6], []), ([], []), ([7, 9], []), ([8], [])] [9, 10] [[], [], [], [], [], [], [], [], [], [true], [], []] (fun m cv1 => match m with | 0 => [] | 1 => [(7, (Bx 8 true 27 (tapi_Unit.is zapi_Unit) (bk (cv1 0))))] | _ => [(7, (Bx 8 true 27 (tapi_Unit.is find.1) (bk (cv1 0))))]) (fun _ => none) Try.mixed rfl rfl rfl rfl rfl ⟨fun _ _ _ _ => rfl, ⟨fun _ _ _ _ => rfl, ⟨fun _ _ _ _ => rfl, ⟨fun _ _ _ _ => rfl, ⟨fun _ _ _ _ => rfl, ⟨fun _ _ _ _ => rfl, ⟨fun _ _ _ _ => rfl, ⟨fun _ _ _ _ => rfl, ⟨fun _ _ _ _ => rfl, ⟨fun m hm c t => by simp only [DA.at, upd_dep (r := [true]) (j := 0) rfl hm], ⟨fun _ _ _ _ => rfl, ⟨fun _ _ _ _ => rfl, trivial⟩⟩⟩⟩⟩⟩⟩⟩⟩⟩⟩⟩ rfl ⟨.inr ⟨fun cv1 => [], (fun _ _ _ _ => trivial), fun cv1 => Op1.load ty27 (.tmp rfl)⟩, ⟨.inr ⟨fun cv1 => [], (fun _ _ _ _ => trivial), fun cv1 => Op1.move (.tmp rfl)⟩, ⟨.inr ⟨fun cv1 => [], (fun _ _ _ _ => trivial), fun cv1 => Op1.move (.tmp rfl)⟩, ⟨.inr ⟨fun cv1 => [], (fun _ _ _ _ => trivial), fun cv1 => Op1.idx hv16 Try.underlying42 Try.sizeOf23 (.tmp rfl) (.tmp rfl)⟩, ⟨.inr ⟨fun cv1 => [], (fun _ _ _ _ => trivial), fun cv1 => Op1.load ty23 (.tmp rfl)⟩, ⟨.inr ⟨fun cv1 => [], (fun _ _ _ _ => trivial), fun cv1 => Op1.call Try.call15 (r06_Find_spec _ _ _ _ hv17) ⟨(.tmp rfl), (.tmp rfl), trivial⟩⟩, ⟨.inr ⟨fun cv1 => [], (fun _ _ _ _ => trivial), fun cv1 => Op1.move (.tmp rfl)⟩, ⟨.inr ⟨fun cv1 => [], (fun _ _ _ _ => trivial), fun cv1 => Op1.extract0 (.tmp rfl)⟩, ⟨.inr ⟨fun cv1 => [], (fun _ _ _ _ => trivial), fun cv1 => Op1.extract1 (.tmp rfl)⟩, ⟨.inl rfl, ⟨.inl rfl, ⟨.inr ⟨fun cv1 => [], (fun _ _ _ _ => trivial), fun cv1 => Op1.assign (.tmp rfl)⟩, trivial⟩⟩⟩⟩⟩⟩⟩⟩⟩⟩⟩⟩ ⟨⟨_, _, _, [], (fun cv1 => [(7, (Bx 8 true 27 (tapi_Unit.is zapi_Unit) (bk (cv1 0))))]), rfl, rfl, rfl, rfl, fun _ => rfl, fun _ _ => rfl, fun cv1 => OpR.viaB (OpR.alloc 7 ze27)⟩, ⟨⟨_, _, _, [7], (fun cv1 => [(7, (Bx 8 true 27 (tapi_Unit.is find.1) (bk (cv1 0))))]), rfl, rfl, rfl, rfl, fun _ => rfl, fun _ _ => rfl, fun cv1 => OpR.viaU (OpR.storeB (b := (bk (cv1 0))) 7 Try.sizeOf27 (Cellable.is tapi_Unit find.1) rfl (.tmp rfl) (.tmp rfl))⟩, trivial⟩⟩ (fun cv1 => ?_)
          refine WN.seq ?_
          refine W.sr ?_
          refine WL.op rfl (Op1.load ty27 (.tmp rfl)) ?_
          refine WL.mv rfl rfl ?_
          obtain ⟨insert, hv18, hm⟩ := bind_some hm
          refine WL.op rfl (Op1.call Try.call11 (target_InsertionPoint_spec _ _ _ _ _ hv18) ⟨(.tmp rfl), (.tmp rfl), (.int (inR64.2 (by omega))), trivial⟩) ?_
          refine WL.mv rfl rfl ?_
          refine WL.op rfl (Op1.extract30 (.tmp rfl)) ?_
          refine WL.op rfl (Op1.extract31 (.tmp rfl)) ?_
          refine WL.op rfl (Op1.extract32 (.tmp rfl)) ?_
          refine WL.opR rfl (OpR.alloc 9 ze23) (fun b => ?_)
          refine WL.opU (OpR.storeB (b := b) 9 Try.sizeOf23 (Cellable.is tapi_Id insert.1) rfl (.tmp rfl) (.tmp rfl)) (fun _ => ?_)
          refine WL.sealed (t := tapi_Id) (u := insert.1) 9 9 rfl rfl ?_
          refine WL.gv rfl rfl ?_
          refine WL.gv rfl rfl ?_
          refine WL.nr ?_
          refine WL.op rfl (Op1.load ty27 (.tmp rfl)) ?_
          refine WL.mv rfl rfl ?_
          obtain ⟨insert1, hv19, hm⟩ := bind_some hm
          refine WL.op rfl (Op1.call Try.call11 (target_InsertionPoint_spec _ _ _ _ _ hv19) ⟨(.tmp rfl), (.tmp rfl), (.int (inR64.2 (by omega))), trivial⟩) ?_
          refine WL.mv rfl rfl ?_
          refine WL.op rfl (Op1.extract30 (.tmp rfl)) ?_
          refine WL.op rfl (Op1.extract31 (.tmp rfl)) ?_
          refine WL.op rfl (Op1.extract32 (.tmp rfl)) ?_
          refine WL.opR rfl (OpR.alloc 12 ze23) (fun b1 => ?_)
          refine WL.opU (OpR.storeB (b := b1) 12 Try.sizeOf23 (Cellable.is tapi_Id insert1.1) rfl (.tmp rfl) (.tmp rfl)) (fun _ => ?_)
          refine WL.sealed (t := tapi_Id) (u := insert1.1) 12 12 rfl rfl ?_
          refine WL.gv rfl rfl ?_
          refine WL.gv rfl rfl ?_
          refine WL.ns ?_
          refine W.seq ?_
          refine W.seq ?_
          obtain ⟨v2, hv20, hm⟩ := bind_some hm
          rcases bcases (decide (insert.1 ≠ v2)) with hb21 | hb21
          · have hp22 := of_decide_eq_true hb21
            rw [if_pos hp22] at hm
            refine W.draw [.c (tapi_Id.is insert.1), .c ((tL tapi_Id).is all), .c ((tI .i64).is i), .c (tapi_Id.ptr v2), .c (tapi_Id.is v2), .c (tB.is (decide (insert.1 ≠ v2))), .c (tB.is (decide (insert.1 ≠ v2))), .c (Asn.eq undef), .c (Asn.eq undef), .c (tB.is true), .c (tB.is true), .c (Asn.eq undef), .c (Asn.eq undef), .c (tB.is true), .c (tB.is true), .c (Asn.eq undef), .c (Asn.eq undef), .c (Asn.eq undef), .c (Asn.eq undef), .c (Asn.eq undef), .c (Asn.eq undef), .c (tB.is true), .c (tB.is true), .c (Asn.eq undef), .c (Asn.eq undef), .c (Asn.eq undef), .c (Asn.eq undef), .c (Asn.eq undef), .c (tB.is true), .c (tB.is true), .c (Asn.eq undef), .c (Asn.eq undef), .c (tB.is true)] [([], [9]), ([], [3]), ([], [4]), ([1, 2], []), ([3], []), ([0, 4], []), ([5], []), ([6], [10]), ([6, 7], []), ([6, 8], []), ([9], []), ([10], [11]), ([10, 11], []), ([10, 12], []), ([13], []), ([14], [12]), ([14], [3]), ([14], [4]), ([14, 16, 17], []), ([14, 18], []), ([14, 15, 19], []), ([14, 20], []), ([21], []), ([22], [13]), ([22], [7]), ([22, 24], []), ([22, 25], []), ([22, 23, 26], []), ([22, 27], []), ([28], []), ([29], [14]), ([29, 30], []), ([29, 31], [])] Try.mixed rfl rfl rfl rfl (by exact ⟨.inr (Op1.load ty23 (.tmp rfl)), .inr (Op1.move (.tmp rfl)), .inr (Op1.move (.tmp rfl)), .inr (Op1.idx hv20 Try.underlying42 Try.sizeOf23 (.tmp rfl) (.tmp rfl)), .inr (Op1.load ty23 (.tmp rfl)), .inr (Op1.neSt (D := 2) rfl (by decide) eg23 eq23 (.tmp rfl) (.tmp rfl)), .inr (Op1.move (.tmp rfl)), .inr ⟨_, _, _, rfl, rfl, .inl ⟨rfl, .inr ⟨hb21, rfl⟩⟩⟩, .inr ⟨_, _, _, rfl, rfl, .inl ⟨rfl, .inr ⟨hb21, rfl⟩⟩⟩, .inr (Op1.pickT (.tmp rfl) hb21 .bool), .inr (Op1.move (.tmp rfl)), .inr ⟨_, _, _, rfl, rfl, .inl ⟨rfl, .inr ⟨rfl, rfl⟩⟩⟩, .inr ⟨_, _, _, rfl, rfl, .inl ⟨rfl, .inr ⟨rfl, rfl⟩⟩⟩, .inr (Op1.pickT (.tmp rfl) rfl .bool), .inr (Op1.move (.tmp rfl)), .inr ⟨_, _, _, rfl, rfl, .inl ⟨rfl, .inr ⟨rfl, rfl⟩⟩⟩, .inr ⟨_, _, _, rfl, rfl, .inl ⟨rfl, .inr ⟨rfl, rfl⟩⟩⟩, .inr ⟨_, _, _, rfl, rfl, .inl ⟨rfl, .inr ⟨rfl, rfl⟩⟩⟩, .inr ⟨_, _, _, rfl, rfl, .inl ⟨rfl, .inr ⟨rfl, rfl⟩⟩⟩, .inr ⟨_, _, _, rfl, rfl, .inl ⟨rfl, .inr ⟨rfl, rfl⟩⟩⟩, .inr ⟨_, _, _, rfl, rfl, .inl ⟨rfl, .inr ⟨rfl, rfl⟩⟩⟩, .inr (Op1.pickT (.tmp rfl) rfl .bool), .inr (Op1.move (.tmp rfl)), .inr ⟨_, _, _, rfl, rfl, .inl ⟨rfl, .inr ⟨rfl, rfl⟩⟩⟩, .inr ⟨_, _, _, rfl, rfl, .inl ⟨rfl, .inr ⟨rfl, rfl⟩⟩⟩, .inr ⟨_, _, _, rfl, rfl, .inl ⟨rfl, .inr ⟨rfl, rfl⟩⟩⟩, .inr ⟨_, _, _, rfl, rfl, .inl ⟨rfl, .inr ⟨rfl, rfl⟩⟩⟩, .inr ⟨_, _, _, rfl, rfl, .inl ⟨rfl, .inr ⟨rfl, rfl⟩⟩⟩, .inr (Op1.pickT (.tmp rfl) rfl .bool), .inr (Op1.move (.tmp rfl)), .inr ⟨_, _, _, rfl, rfl, .inl ⟨rfl, .inr ⟨rfl, rfl⟩⟩⟩, .inr ⟨_, _, _, rfl, rfl, .inl ⟨rfl, .inr ⟨rfl, rfl⟩⟩⟩, .inr (Op1.pickT (.tmp rfl) rfl .bool), trivial⟩) ?_
            refine WN.seq ?_
            refine W.condT (.tmp rfl) ?_
            refine W.sr ?_
            refine WL.op rfl (Op1.assign .bool) ?_
            refine WL.ns ?_
            have hr23 := Option.some.inj hm
            clear hm
            subst hr23
            have hm := hk10
            try dsimp only at hm
            cases hm
            exact W.ret1 () rfl (.tmp rfl) trivial
          · have hp22 := of_decide_eq_false hb21
            rw [if_neg hp22] at hm
            rcases bcases (decide (insert.2.1 ≠ (0 : Int))) with hb24 | hb24
            · have hp25 := of_decide_eq_true hb24
              rw [if_pos hp25] at hm
              refine W.draw [.c (tapi_Id.is insert.1), .c ((tL tapi_Id).is all), .c ((tI .i64).is i), .c (tapi_Id.ptr v2), .c (tapi_Id.is v2), .c (tB.is (decide (insert.1 ≠ v2))), .c (tB.is (decide (insert.1 ≠ v2))), .c ((tI .i64).is insert.2.1), .c (tB.is (decide (insert.2.1 ≠ (0 : Int)))), .c (tB.is (decide (insert.2.1 ≠ (0 : Int)))), .c (tB.is (decide (insert.2.1 ≠ (0 : Int)))), .c (Asn.eq undef), .c (Asn.eq undef), .c (tB.is true), .c (tB.is true), .c (Asn.eq undef), .c (Asn.eq undef), .c (Asn.eq undef), .c (Asn.eq undef), .c (Asn.eq undef), .c (Asn.eq undef), .c (tB.is true), .c (tB.is true), .c (Asn.eq undef), .c (Asn.eq undef), .c (Asn.eq undef), .c (Asn.eq undef), .c (Asn.eq undef), .c (tB.is true), .c (tB.is true), .c (Asn.eq undef), .c (Asn.eq undef), .c (tB.is true)] [([], [9]), ([], [3]), ([], [4]), ([1, 2], []), ([3], []), ([0, 4], []), ([5], []), ([6], [10]), ([6, 7], []), ([6, 8], []), ([9], []), ([10], [11]), ([10, 11], []), ([10, 12], []), ([13], []), ([14], [12]), ([14], [3]), ([14], [4]), ([14, 16, 17], []), ([14, 18], []), ([14, 15, 19], []), ([14, 20], []), ([21], []), ([22], [13]), ([22], [7]), ([22, 24], []), ([22, 25], []), ([22, 23, 26], []), ([22, 27], []), ([28], []), ([29], [14]), ([29, 30], []), ([29, 31], [])] Try.mixed rfl rfl rfl rfl (by exact ⟨.inr (Op1.load ty23 (.tmp rfl)), .inr (Op1.move (.tmp rfl)), .inr (Op1.move (.tmp rfl)), .inr (Op1.idx hv20 Try.underlying42 Try.sizeOf23 (.tmp rfl) (.tmp rfl)), .inr (Op1.load ty23 (.tmp rfl)), .inr (Op1.neSt (D := 2) rfl (by decide) eg23 eq23 (.tmp rfl) (.tmp rfl)), .inr (Op1.move (.tmp rfl)), .inr ⟨_, _, _, rfl, rfl, .inl ⟨rfl, .inl ⟨hb21, Op1.move (.tmp rfl)⟩⟩⟩, .inr ⟨_, _, _, rfl, rfl, .inl ⟨rfl, .inl ⟨hb21, Op1.neI (.tmp rfl) (.int (inR64.2 (by omega)))⟩⟩⟩, .inr (Op1.pickF (.tmp rfl) hb21 (.tmp rfl)), .inr (Op1.move (.tmp rfl)), .inr ⟨_, _, _, rfl, rfl, .inl ⟨rfl, .inr ⟨hb24, rfl⟩⟩⟩, .inr ⟨_, _, _, rfl, rfl, .inl ⟨rfl, .inr ⟨hb24, rfl⟩⟩⟩, .inr (Op1.pickT (.tmp rfl) hb24 .bool), .inr (Op1.move (.tmp rfl)), .inr ⟨_, _, _, rfl, rfl, .inl ⟨rfl, .inr ⟨rfl, rfl⟩⟩⟩, .inr ⟨_, _, _, rfl, rfl, .inl ⟨rfl, .inr ⟨rfl, rfl⟩⟩⟩, .inr ⟨_, _, _, rfl, rfl, .inl ⟨rfl, .inr ⟨rfl, rfl⟩⟩⟩, .inr ⟨_, _, _, rfl, rfl, .inl ⟨rfl, .inr ⟨rfl, rfl⟩⟩⟩, .inr ⟨_, _, _, rfl, rfl, .inl ⟨rfl, .inr ⟨rfl, rfl⟩⟩⟩, .inr ⟨_, _, _, rfl, rfl, .inl ⟨rfl, .inr ⟨rfl, rfl⟩⟩⟩, .inr (Op1.pickT (.tmp rfl) rfl .bool), .inr (Op1.move (.tmp rfl)), .inr ⟨_, _, _, rfl, rfl, .inl ⟨rfl, .inr ⟨rfl, rfl⟩⟩⟩, .inr ⟨_, _, _, rfl, rfl, .inl ⟨rfl, .inr ⟨rfl, rfl⟩⟩⟩, .inr ⟨_, _, _, rfl, rfl, .inl ⟨rfl, .inr ⟨rfl, rfl⟩⟩⟩, .inr ⟨_, _, _, rfl, rfl, .inl ⟨rfl, .inr ⟨rfl, rfl⟩⟩⟩, .inr ⟨_, _, _, rfl, rfl, .inl ⟨rfl, .inr ⟨rfl, rfl⟩⟩⟩, .inr (Op1.pickT (.tmp rfl) rfl .bool), .inr (Op1.move (.tmp rfl)), .inr ⟨_, _, _, rfl, rfl, .inl ⟨rfl, .inr ⟨rfl, rfl⟩⟩⟩, .inr ⟨_, _, _, rfl, rfl, .inl ⟨rfl, .inr ⟨rfl, rfl⟩⟩⟩, .inr (Op1.pickT (.tmp rfl) rfl .bool), trivial⟩) ?_
              refine WN.seq ?_
              refine W.condT (.tmp rfl) ?_
              refine W.sr ?_
              refine WL.op rfl (Op1.assign .bool) ?_
              refine WL.ns ?_
              have hr26 := Option.some.inj hm
              clear hm
              subst hr26
              have hm := hk10
              try dsimp only at hm
              cases hm
              exact W.ret1 () rfl (.tmp rfl) trivial
            · have hp25 := of_decide_eq_false hb24
              rw [if_neg hp25] at hm
              rcases bcases (decide (insert.2.2 ≠ (0 : Int))) with hb27 | hb27
              · have hp28 := of_decide_eq_true hb27
                rw [if_pos hp28] at hm
                refine W.draw [.c (tapi_Id.is insert.1), .c ((tL tapi_Id).is all), .c ((tI .i64).is i), .c (tapi_Id.ptr v2), .c (tapi_Id.is v2), .c (tB.is (decide (insert.1 ≠ v2))), .c (tB.is (decide (insert.1 ≠ v2))), .c ((tI .i64).is insert.2.1), .c (tB.is (decide (insert.2.1 ≠ (0 : Int)))), .c (tB.is (decide (insert.2.1 ≠ (0 : Int)))), .c (tB.is (decide (insert.2.1 ≠ (0 : Int)))), .c ((tI .i64).is insert.2.2), .c (tB.is (decide (insert.2.2 ≠ (0 : Int)))), .c (tB.is (decide (insert.2.2 ≠ (0 : Int)))), .c (tB.is (decide (insert.2.2 ≠ (0 : Int)))), .c (Asn.eq undef), .c (Asn.eq undef), .c (Asn.eq undef), .c (Asn.eq undef), .c (Asn.eq undef), .c (Asn.eq undef), .c (tB.is true), .c (tB.is true), .c (Asn.eq undef), .c (Asn.eq undef), .c (Asn.eq undef), .c (Asn.eq undef), .c (Asn.eq undef), .c (tB.is true), .c (tB.is true), .c (Asn.eq undef), .c (Asn.eq undef), .c (tB.is true)] [([], [9]), ([], [3]), ([], [4]), ([1, 2], []), ([3], []), ([0, 4], []), ([5], []), ([6], [10]), ([6, 7], []), ([6, 8], []), ([9], []), ([10], [11]), ([10, 11], []), ([10, 12], []), ([13], []), ([14], [12]), ([14], [3]), ([14], [4]), ([14, 16, 17], []), ([14, 18], []), ([14, 15, 19], []), ([14, 20], []), ([21], []), ([22], [13]), ([22], [7]), ([22, 24], []), ([22, 25], []), ([22, 23, 26], []), ([22, 27], []), ([28], []), ([29], [14]), ([29, 30], []), ([29, 31], [])] Try.mixed rfl rfl rfl rfl (by exact ⟨.inr (Op1.load ty23 (.tmp rfl)), .inr (Op1.move (.tmp rfl)), .inr (Op1.move (.tmp rfl)), .inr (Op1.idx hv20 Try.underlying42 Try.sizeOf23 (.tmp rfl) (.tmp rfl)), .inr (Op1.load ty23 (.tmp rfl)), .inr (Op1.neSt (D := 2) rfl (by decide) eg23 eq23 (.tmp rfl) (.tmp rfl)), .inr (Op1.move (.tmp rfl)), .inr ⟨_, _, _, rfl, rfl, .inl ⟨rfl, .inl ⟨hb21, Op1.move (.tmp rfl)⟩⟩⟩, .inr ⟨_, _, _, rfl, rfl, .inl ⟨rfl, .inl ⟨hb21, Op1.neI (.tmp rfl) (.int (inR64.2 (by omega)))⟩⟩⟩, .inr (Op1.pickF (.tmp rfl) hb21 (.tmp rfl)), .inr (Op1.move (.tmp rfl)), .inr ⟨_, _, _, rfl, rfl, .inl ⟨rfl, .inl ⟨hb24, Op1.move (.tmp rfl)⟩⟩⟩, .inr ⟨_, _, _, rfl, rfl, .inl ⟨rfl, .inl ⟨hb24, Op1.neI (.tmp rfl) (.int (inR64.2 (by omega)))⟩⟩⟩, .inr (Op1.pickF (.tmp rfl) hb24 (.tmp rfl)), .inr (Op1.move (.tmp rfl)), .inr ⟨_, _, _, rfl, rfl, .inl ⟨rfl, .inr ⟨hb27, rfl⟩⟩⟩, .inr ⟨_, _, _, rfl, rfl, .inl ⟨rfl, .inr ⟨hb27, rfl⟩⟩⟩, .inr ⟨_, _, _, rfl, rfl, .inl ⟨rfl, .inr ⟨hb27, rfl⟩⟩⟩, .inr ⟨_, _, _, rfl, rfl, .inl ⟨rfl, .inr ⟨hb27, rfl⟩⟩⟩, .inr ⟨_, _, _, rfl, rfl, .inl ⟨rfl, .inr ⟨hb27, rfl⟩⟩⟩, .inr ⟨_, _, _, rfl, rfl, .inl ⟨rfl, .inr ⟨hb27, rfl⟩⟩⟩, .inr (Op1.pickT (.tmp rfl) hb27 .bool), .inr (Op1.move (.tmp rfl)), .inr ⟨_, _, _, rfl, rfl, .inl ⟨rfl, .inr ⟨rfl, rfl⟩⟩⟩, .inr ⟨_, _, _, rfl, rfl, .inl ⟨rfl, .inr ⟨rfl, rfl⟩⟩⟩, .inr ⟨_, _, _, rfl, rfl, .inl ⟨rfl, .inr ⟨rfl, rfl⟩⟩⟩, .inr ⟨_, _, _, rfl, rfl, .inl ⟨rfl, .inr ⟨rfl, rfl⟩⟩⟩, .inr ⟨_, _, _, rfl, rfl, .inl ⟨rfl, .inr ⟨rfl, rfl⟩⟩⟩, .inr (Op1.pickT (.tmp rfl) rfl .bool), .inr (Op1.move (.tmp rfl)), .inr ⟨_, _, _, rfl, rfl, .inl ⟨rfl, .inr ⟨rfl, rfl⟩⟩⟩, .inr ⟨_, _, _, rfl, rfl, .inl ⟨rfl, .inr ⟨rfl, rfl⟩⟩⟩, .inr (Op1.pickT (.tmp rfl) rfl .bool), trivial⟩) ?_
                refine WN.seq ?_
                refine W.condT (.tmp rfl) ?_
                refine W.sr ?_
                refine WL.op rfl (Op1.assign .bool) ?_
                refine WL.ns ?_
                have hr29 := Option.some.inj hm
                clear hm
                subst hr29
                have hm := hk10
                try dsimp only at hm
                cases hm
                exact W.ret1 () rfl (.tmp rfl) trivial
              · have hp28 := of_decide_eq_false hb27
                rw [if_neg hp28] at hm
                obtain ⟨v3, hv30, hm⟩ := bind_some hm
                rcases bcases (decide (insert1.1 ≠ v3)) with hb31 | hb31
                · have hp32 := of_decide_eq_true hb31
                  rw [if_pos hp32] at hm
                  refine W.draw [.c (tapi_Id.is insert.1), .c ((tL tapi_Id).is all), .c ((tI .i64).is i), .c (tapi_Id.ptr v2), .c (tapi_Id.is v2), .c (tB.is (decide (insert.1 ≠ v2))), .c (tB.is (decide (insert.1 ≠ v2))), .c ((tI .i64).is insert.2.1), .c (tB.is (decide (insert.2.1 ≠ (0 : Int)))), .c (tB.is (decide (insert.2.1 ≠ (0 : Int)))), .c (tB.is (decide (insert.2.1 ≠ (0 : Int)))), .c ((tI .i64).is insert.2.2), .c (tB.is (decide (insert.2.2 ≠ (0 : Int)))), .c (tB.is (decide (insert.2.2 ≠ (0 : Int)))), .c (tB.is (decide (insert.2.2 ≠ (0 : Int)))), .c (tapi_Id.is insert1.1), .c ((tL tapi_Id).is all), .c ((tI .i64).is i), .c (tapi_Id.ptr v3), .c (tapi_Id.is v3), .c (tB.is (decide (insert1.1 ≠ v3))), .c (tB.is (decide (insert1.1 ≠ v3))), .c (tB.is (decide (insert1.1 ≠ v3))), .c (Asn.eq undef), .c (Asn.eq undef), .c (Asn.eq undef), .c (Asn.eq undef), .c (Asn.eq undef), .c (tB.is true), .c (tB.is true), .c (Asn.eq undef), .c (Asn.eq undef), .c (tB.is true)] [([], [9]), ([], [3]), ([], [4]), ([1, 2], []), ([3], []), ([0, 4], []), ([5], []), ([6], [10]), ([6, 7], []), ([6, 8], []), ([9], []), ([10], [11]), ([10, 11], []), ([10, 12], []), ([13], []), ([14], [12]), ([14], [3]), ([14], [4]), ([14, 16, 17], []), ([14, 18], []), ([14, 15, 19], []), ([14, 20], []), ([21], []), ([22], [13]), ([22], [7]), ([22, 24], []), ([22, 25], []), ([22, 23, 26], []), ([22, 27], []), ([28], []), ([29], [14]), ([29, 30], []), ([29, 31], [])] Try.mixed rfl rfl rfl rfl (by exact ⟨.inr (Op1.load ty23 (.tmp rfl)), .inr (Op1.move (.tmp rfl)), .inr (Op1.move (.tmp rfl)), .inr (Op1.idx hv20 Try.underlying42 Try.sizeOf23 (.tmp rfl) (.tmp rfl)), .inr (Op1.load ty23 (.tmp rfl)), .inr (Op1.neSt (D := 2) rfl (by decide) eg23 eq23 (.tmp rfl) (.tmp rfl)), .inr (Op1.move (.tmp rfl)), .inr ⟨_, _, _, rfl, rfl, .inl ⟨rfl, .inl ⟨hb21, Op1.move (.tmp rfl)⟩⟩⟩, .inr ⟨_, _, _, rfl, rfl, .inl ⟨rfl, .inl ⟨hb21, Op1.neI (.tmp rfl) (.int (inR64.2 (by omega)))⟩⟩⟩, .inr (Op1.pickF (.tmp rfl) hb21 (.tmp rfl)), .inr (Op1.move (.tmp rfl)), .inr ⟨_, _, _, rfl, rfl, .inl ⟨rfl, .inl ⟨hb24, Op1.move (.tmp rfl)⟩⟩⟩, .inr ⟨_, _, _, rfl, rfl, .inl ⟨rfl, .inl ⟨hb24, Op1.neI (.tmp rfl) (.int (inR64.2 (by omega)))⟩⟩⟩, .inr (Op1.pickF (.tmp rfl) hb24 (.tmp rfl)), .inr (Op1.move (.tmp rfl)), .inr ⟨_, _, _, rfl, rfl, .inl ⟨rfl, .inl ⟨hb27, Op1.load ty23 (.tmp rfl)⟩⟩⟩, .inr ⟨_, _, _, rfl, rfl, .inl ⟨rfl, .inl ⟨hb27, Op1.move (.tmp rfl)⟩⟩⟩, .inr ⟨_, _, _, rfl, rfl, .inl ⟨rfl, .inl ⟨hb27, Op1.move (.tmp rfl)⟩⟩⟩, .inr ⟨_, _, _, rfl, rfl, .inl ⟨rfl, .inl ⟨hb27, Op1.idx hv30 Try.underlying42 Try.sizeOf23 (.tmp rfl) (.tmp rfl)⟩⟩⟩, .inr ⟨_, _, _, rfl, rfl, .inl ⟨rfl, .inl ⟨hb27, Op1.load ty23 (.tmp rfl)⟩⟩⟩, .inr ⟨_, _, _, rfl, rfl, .inl ⟨rfl, .inl ⟨hb27, Op1.neSt (D := 2) rfl (by decide) eg23 eq23 (.tmp rfl) (.tmp rfl)⟩⟩⟩, .inr (Op1.pickF (.tmp rfl) hb27 (.tmp rfl)), .inr (Op1.move (.tmp rfl)), .inr ⟨_, _, _, rfl, rfl, .inl ⟨rfl, .inr ⟨hb31, rfl⟩⟩⟩, .inr ⟨_, _, _, rfl, rfl, .inl ⟨rfl, .inr ⟨hb31, rfl⟩⟩⟩, .inr ⟨_, _, _, rfl, rfl, .inl ⟨rfl, .inr ⟨hb31, rfl⟩⟩⟩, .inr ⟨_, _, _, rfl, rfl, .inl ⟨rfl, .inr ⟨hb31, rfl⟩⟩⟩, .inr ⟨_, _, _, rfl, rfl, .inl ⟨rfl, .inr ⟨hb31, rfl⟩⟩⟩, .inr (Op1.pickT (.tmp rfl) hb31 .bool), .inr (Op1.move (.tmp rfl)), .inr ⟨_, _, _, rfl, rfl, .inl ⟨rfl, .inr ⟨rfl, rfl⟩⟩⟩, .inr ⟨_, _, _, rfl, rfl, .inl ⟨rfl, .inr ⟨rfl, rfl⟩⟩⟩, .inr (Op1.pickT (.tmp rfl) rfl .bool), trivial⟩) ?_
                  refine WN.seq ?_
                  refine W.condT (.tmp rfl) ?_
                  refine W.sr ?_
                  refine WL.op rfl (Op1.assign .bool) ?_
                  refine WL.ns ?_
                  have hr33 := Option.some.inj hm
                  clear hm
                  subst hr33
                  have hm := hk10
                  try dsimp only at hm
                  cases hm
                  exact W.ret1 () rfl (.tmp rfl) trivial
                · have hp32 := of_decide_eq_false hb31
                  rw [if_neg hp32] at hm
                  rcases bcases (decide (insert1.2.1 ≠ (find.1.Kids.length : Int))) with hb34 | hb34
                  · have hp35 := of_decide_eq_true hb34
                    rw [if_pos hp35] at hm
                    refine W.draw [.c (tapi_Id.is insert.1), .c ((tL tapi_Id).is all), .c ((tI .i64).is i), .c (tapi_Id.ptr v2), .c (tapi_Id.is v2), .c (tB.is (decide (insert.1 ≠ v2))), .c (tB.is (decide (insert.1 ≠ v2))), .c ((tI .i64).is insert.2.1), .c (tB.is (decide (insert.2.1 ≠ (0 : Int)))), .c (tB.is (decide (insert.2.1 ≠ (0 : Int)))), .c (tB.is (decide (insert.2.1 ≠ (0 : Int)))), .c ((tI .i64).is insert.2.2), .c (tB.is (decide (insert.2.2 ≠ (0 : Int)))), .c (tB.is (decide (insert.2.2 ≠ (0 : Int)))), .c (tB.is (decide (insert.2.2 ≠ (0 : Int)))), .c (tapi_Id.is insert1.1), .c ((tL tapi_Id).is all), .c ((tI .i64).is i), .c (tapi_Id.ptr v3), .c (tapi_Id.is v3), .c (tB.is (decide (insert1.1 ≠ v3))), .c (tB.is (decide (insert1.1 ≠ v3))), .c (tB.is (decide (insert1.1 ≠ v3))), .c ((tI .i64).is insert1.2.1), .c (Bp (bk (cv1 0)) 7), .c ((tL tapi_Unit).is find.1.Kids), .c ((tI .i64).is (find.1.Kids.length : Int)), .c (tB.is (decide (insert1.2.1 ≠ (find.1.Kids.length : Int)))), .c (tB.is (decide (insert1.2.1 ≠ (find.1.Kids.length : Int)))), .c (tB.is (decide (insert1.2.1 ≠ (find.1.Kids.length : Int)))), .c (Asn.eq undef), .c (Asn.eq undef), .c (tB.is true)] [([], [9]), ([], [3]), ([], [4]), ([1, 2], []), ([3], []), ([0, 4], []), ([5], []), ([6], [10]), ([6, 7], []), ([6, 8], []), ([9], []), ([10], [11]), ([10, 11], []), ([10, 12], []), ([13], []), ([14], [12]), ([14], [3]), ([14], [4]), ([14, 16, 17], []), ([14, 18], []), ([14, 15, 19], []), ([14, 20], []), ([21], []), ([22], [13]), ([22], [7]), ([22, 24], []), ([22, 25], []), ([22, 23, 26], []), ([22, 27], []), ([28], []), ([29], [14]), ([29, 30], []), ([29, 31], [])] Try.mixed rfl rfl rfl rfl (by exact ⟨.inr (Op1.load ty23 (.tmp rfl)), .inr (Op1.move (.tmp rfl)), .inr (Op1.move (.tmp rfl)), .inr (Op1.idx hv20 Try.underlying42 Try.sizeOf23 (.tmp rfl) (.tmp rfl)), .inr (Op1.load ty23 (.tmp rfl)), .inr (Op1.neSt (D := 2) rfl (by decide) eg23 eq23 (.tmp rfl) (.tmp rfl)), .inr (Op1.move (.tmp rfl)), .inr ⟨_, _, _, rfl, rfl, .inl ⟨rfl, .inl ⟨hb21, Op1.move (.tmp rfl)⟩⟩⟩, .inr ⟨_, _, _, rfl, rfl, .inl ⟨rfl, .inl ⟨hb21, Op1.neI (.tmp rfl) (.int (inR64.2 (by omega)))⟩⟩⟩, .inr (Op1.pickF (.tmp rfl) hb21 (.tmp rfl)), .inr (Op1.move (.tmp rfl)), .inr ⟨_, _, _, rfl, rfl, .inl ⟨rfl, .inl ⟨hb24, Op1.move (.tmp rfl)⟩⟩⟩, .inr ⟨_, _, _, rfl, rfl, .inl ⟨rfl, .inl ⟨hb24, Op1.neI (.tmp rfl) (.int (inR64.2 (by omega)))⟩⟩⟩, .inr (Op1.pickF (.tmp rfl) hb24 (.tmp rfl)), .inr (Op1.move (.tmp rfl)), .inr ⟨_, _, _, rfl, rfl, .inl ⟨rfl, .inl ⟨hb27, Op1.load ty23 (.tmp rfl)⟩⟩⟩, .inr ⟨_, _, _, rfl, rfl, .inl ⟨rfl, .inl ⟨hb27, Op1.move (.tmp rfl)⟩⟩⟩, .inr ⟨_, _, _, rfl, rfl, .inl ⟨rfl, .inl ⟨hb27, Op1.move (.tmp rfl)⟩⟩⟩, .inr ⟨_, _, _, rfl, rfl, .inl ⟨rfl, .inl ⟨hb27, Op1.idx hv30 Try.underlying42 Try.sizeOf23 (.tmp rfl) (.tmp rfl)⟩⟩⟩, .inr ⟨_, _, _, rfl, rfl, .inl ⟨rfl, .inl ⟨hb27, Op1.load ty23 (.tmp rfl)⟩⟩⟩, .inr ⟨_, _, _, rfl, rfl, .inl ⟨rfl, .inl ⟨hb27, Op1.neSt (D := 2) rfl (by decide) eg23 eq23 (.tmp rfl) (.tmp rfl)⟩⟩⟩, .inr (Op1.pickF (.tmp rfl) hb27 (.tmp rfl)), .inr (Op1.move (.tmp rfl)), .inr ⟨_, _, _, rfl, rfl, .inl ⟨rfl, .inl ⟨hb31, Op1.move (.tmp rfl)⟩⟩⟩, .inr ⟨_, _, _, rfl, rfl, .inl ⟨rfl, .inl ⟨hb31, Op1.fieldAddrB (o := 0) Try.underlying27 rfl (fun w => ⟨0, Try.sizeOf25 w⟩) (.tmp rfl) rfl⟩⟩⟩, .inr ⟨_, _, _, rfl, rfl, .inl ⟨rfl, .inl ⟨hb31, Op1.loadBF 7 rfl ty25 fapi_Unit_5 rfl (.tmp rfl)⟩⟩⟩, .inr ⟨_, _, _, rfl, rfl, .inl ⟨rfl, .inl ⟨hb31, Op1.lenL Try.underlying25 (.tmp rfl)⟩⟩⟩, .inr ⟨_, _, _, rfl, rfl, .inl ⟨rfl, .inl ⟨hb31, Op1.neI (.tmp rfl) (.tmp rfl)⟩⟩⟩, .inr (Op1.pickF (.tmp rfl) hb31 (.tmp rfl)), .inr (Op1.move (.tmp rfl)), .inr ⟨_, _, _, rfl, rfl, .inl ⟨rfl, .inr ⟨hb34, rfl⟩⟩⟩, .inr ⟨_, _, _, rfl, rfl, .inl ⟨rfl, .inr ⟨hb34, rfl⟩⟩⟩, .inr (Op1.pickT (.tmp rfl) hb34 .bool), trivial⟩) ?_
                    refine WN.seq ?_
                    refine W.condT (.tmp rfl) ?_
                    refine W.sr ?_
                    refine WL.op rfl (Op1.assign .bool) ?_
                    refine WL.ns ?_
                    have hr36 := Option.some.inj hm
                    clear hm
                    subst hr36
                    have hm := hk10
                    try dsimp only at hm
                    cases hm
                    exact W.ret1 () rfl (.tmp rfl) trivial
                  · have hp35 := of_decide_eq_false hb34
                    rw [if_neg hp35] at hm
                    refine W.draw [.c (tapi_Id.is insert.1), .c ((tL tapi_Id).is all), .c ((tI .i64).is i), .c (tapi_Id.ptr v2), .c (tapi_Id.is v2), .c (tB.is (decide (insert.1 ≠ v2))), .c (tB.is (decide (insert.1 ≠ v2))), .c ((tI .i64).is insert.2.1), .c (tB.is (decide (insert.2.1 ≠ (0 : Int)))), .c (tB.is (decide (insert.2.1 ≠ (0 : Int)))), .c (tB.is (decide (insert.2.1 ≠ (0 : Int)))), .c ((tI .i64).is insert.2.2), .c (tB.is (decide (insert.2.2 ≠ (0 : Int)))), .c (tB.is (decide (insert.2.2 ≠ (0 : Int)))), .c (tB.is (decide (insert.2.2 ≠ (0 : Int)))), .c (tapi_Id.is insert1.1), .c ((tL tapi_Id).is all), .c ((tI .i64).is i), .c (tapi_Id.ptr v3), .c (tapi_Id.is v3), .c (tB.is (decide (insert1.1 ≠ v3))), .c (tB.is (decide (insert1.1 ≠ v3))), .c (tB.is (decide (insert1.1 ≠ v3))), .c ((tI .i64).is insert1.2.1), .c (Bp (bk (cv1 0)) 7), .c ((tL tapi_Unit).is find.1.Kids), .c ((tI .i64).is (find.1.Kids.length : Int)), .c (tB.is (decide (insert1.2.1 ≠ (find.1.Kids.length : Int)))), .c (tB.is (decide (insert1.2.1 ≠ (find.1.Kids.length : Int)))), .c (tB.is (decide (insert1.2.1 ≠ (find.1.Kids.length : Int)))), .c ((tI .i64).is insert1.2.2), .c (tB.is (decide (insert1.2.2 ≠ (0 : Int)))), .c (tB.is (decide (insert1.2.2 ≠ (0 : Int))))] [([], [9]), ([], [3]), ([], [4]), ([1, 2], []), ([3], []), ([0, 4], []), ([5], []), ([6], [10]), ([6, 7], []), ([6, 8], []), ([9], []), ([10], [11]), ([10, 11], []), ([10, 12], []), ([13], []), ([14], [12]), ([14], [3]), ([14], [4]), ([14, 16, 17], []), ([14, 18], []), ([14, 15, 19], []), ([14, 20], []), ([21], []), ([22], [13]), ([22], [7]), ([22, 24], []), ([22, 25], []), ([22, 23, 26], []), ([22, 27], []), ([28], []), ([29], [14]), ([29, 30], []), ([29, 31], [])] Try.mixed rfl rfl rfl rfl (by exact ⟨.inr (Op1.load ty23 (.tmp rfl)), .inr (Op1.move (.tmp rfl)), .inr (Op1.move (.tmp rfl)), .inr (Op1.idx hv20 Try.underlying42 Try.sizeOf23 (.tmp rfl) (.tmp rfl)), .inr (Op1.load ty23 (.tmp rfl)), .inr (Op1.neSt (D := 2) rfl (by decide) eg23 eq23 (.tmp rfl) (.tmp rfl)), .inr (Op1.move (.tmp rfl)), .inr ⟨_, _, _, rfl, rfl, .inl ⟨rfl, .inl ⟨hb21, Op1.move (.tmp rfl)⟩⟩⟩, .inr ⟨_, _, _, rfl, rfl, .inl ⟨rfl, .inl ⟨hb21, Op1.neI (.tmp rfl) (.int (inR64.2 (by omega)))⟩⟩⟩, .inr (Op1.pickF (.tmp rfl) hb21 (.tmp rfl)), .inr (Op1.move (.tmp rfl)), .inr ⟨_, _, _, rfl, rfl, .inl ⟨rfl, .inl ⟨hb24, Op1.move (.tmp rfl)⟩⟩⟩, .inr ⟨_, _, _, rfl, rfl, .inl ⟨rfl, .inl ⟨hb24, Op1.neI (.tmp rfl) (.int (inR64.2 (by omega)))⟩⟩⟩, .inr (Op1.pickF (.tmp rfl) hb24 (.tmp rfl)), .inr (Op1.move (.tmp rfl)), .inr ⟨_, _, _, rfl, rfl, .inl ⟨rfl, .inl ⟨hb27, Op1.load ty23 (.tmp rfl)⟩⟩⟩, .inr ⟨_, _, _, rfl, rfl, .inl ⟨rfl, .inl ⟨hb27, Op1.move (.tmp rfl)⟩⟩⟩, .inr ⟨_, _, _, rfl, rfl, .inl ⟨rfl, .inl ⟨hb27, Op1.move (.tmp rfl)⟩⟩⟩, .inr ⟨_, _, _, rfl, rfl, .inl ⟨rfl, .inl ⟨hb27, Op1.idx hv30 Try.underlying42 Try.sizeOf23 (.tmp rfl) (.tmp rfl)⟩⟩⟩, .inr ⟨_, _, _, rfl, rfl, .inl ⟨rfl, .inl ⟨hb27, Op1.load ty23 (.tmp rfl)⟩⟩⟩, .inr ⟨_, _, _, rfl, rfl, .inl ⟨rfl, .inl ⟨hb27, Op1.neSt (D := 2) rfl (by decide) eg23 eq23 (.tmp rfl) (.tmp rfl)⟩⟩⟩, .inr (Op1.pickF (.tmp rfl) hb27 (.tmp rfl)), .inr (Op1.move (.tmp rfl)), .inr ⟨_, _, _, rfl, rfl, .inl ⟨rfl, .inl ⟨hb31, Op1.move (.tmp rfl)⟩⟩⟩, .inr ⟨_, _, _, rfl, rfl, .inl ⟨rfl, .inl ⟨hb31, Op1.fieldAddrB (o := 0) Try.underlying27 rfl (fun w => ⟨0, Try.sizeOf25 w⟩) (.tmp rfl) rfl⟩⟩⟩, .inr ⟨_, _, _, rfl, rfl, .inl ⟨rfl, .inl ⟨hb31, Op1.loadBF 7 rfl ty25 fapi_Unit_5 rfl (.tmp rfl)⟩⟩⟩, .inr ⟨_, _, _, rfl, rfl, .inl ⟨rfl, .inl ⟨hb31, Op1.lenL Try.underlying25 (.tmp rfl)⟩⟩⟩, .inr ⟨_, _, _, rfl, rfl, .inl ⟨rfl, .inl ⟨hb31, Op1.neI (.tmp rfl) (.tmp rfl)⟩⟩⟩, .inr (Op1.pickF (.tmp rfl) hb31 (.tmp rfl)), .inr (Op1.move (.tmp rfl)), .inr ⟨_, _, _, rfl, rfl, .inl ⟨rfl, .inl ⟨hb34, Op1.move (.tmp rfl)⟩⟩⟩, .inr ⟨_, _, _, rfl, rfl, .inl ⟨rfl, .inl ⟨hb34, Op1.neI (.tmp rfl) (.int (inR64.2 (by omega)))⟩⟩⟩, .inr (Op1.pickF (.tmp rfl) hb34 (.tmp rfl)), trivial⟩) ?_
                    refine WN.seq ?_
                    refine W.cond (.tmp rfl) (fun hc37 => ?_) (fun hc37 => ?_)
                    · have hp38 := of_decide_eq_true hc37
                      rw [if_pos hp38] at hm
                      refine W.sr ?_
                      refine WL.op rfl (Op1.assign .bool) ?_
                      refine WL.ns ?_
                      have hr39 := Option.some.inj hm
                      clear hm
                      subst hr39
                      have hm := hk10
                      try dsimp only at hm
                      cases hm
                      exact W.ret1 () rfl (.tmp rfl) trivial
                    · have hp38 := of_decide_eq_false hc37
                      rw [if_neg hp38] at hm
                      refine W.skip ?_
                      refine WN.seq ?_
                      refine W.seq ?_
                      obtain ⟨v4, hv40, hm⟩ := bind_some hm
                      obtain ⟨parent, hv41, hm⟩ := bind_some hm
                      refine W.weakR (res' := [(7, (Bx 8 true 27 (tapi_Unit.is find.1) (bk (cv1 0))))]) ⟨rfl, rfl, trivial⟩ ?_
                      refine W.drawM [.c (tapi_Unit.is u), .c ((tL tapi_Id).is all), .c ((tI .i64).is i), .c (tapi_Id.ptr v4), .c (tapi_Id.is v4), .c (Asn.tuple3 (tapi_Id.is parent.1) ((tI .i64).is parent.2.1) (tB.is parent.2.2)), .c (Asn.tuple3 (tapi_Id.is parent.1) ((tI .i64).is parent.2.1) (tB.is parent.2.2)), .c (tapi_Id.is parent.1), .c ((tI .i64).is parent.2.1), .c (tB.is parent.2.2), .f (fun cv2 => (Bp (bk (cv2 0)) 0)), .c Asn.any, .c ((tI .i64).is parent.2.1), .c (tB.is parent.2.2)] [([], [1]), ([], [3]), ([], [4]), ([1, 2], []), ([3], []), ([0, 4], []), ([5], []), ([6], []), ([6], []), ([6], []), ([], []), ([7, 10], []), ([8], []), ([9], [])] [10, 11] [[], [], [], [], [], [], [], [], [], [], [true], [], [], []] (fun m cv2 => match m with | 0 => [(7, (Bx 8 true 27 (tapi_Unit.is find.1) (bk (cv1 0))))] | 1 => [(15, (Bx 3 true 23 (tapi_Id.is zapi_Id) (bk (cv2 0)))), (7, (Bx 8 true 27 (tapi_Unit.is find.1) (bk (cv1 0))))] | _ => [(15, (Bx 3 true 23 (tapi_Id.is parent.1) (bk (cv2 0)))), (7, (Bx 8 true 27 (tapi_Unit.is find.1) (bk (cv1 0))))]) (fun _ => none) Try.mixed rfl rfl rfl rfl rfl ⟨fun _ _ _ _ => rfl, ⟨fun _ _ _ _ => rfl, ⟨fun _ _ _ _ => rfl, ⟨fun _ _ _ _ => rfl, ⟨fun _ _ _ _ => rfl, ⟨fun _ _ _ _ => rfl, ⟨fun _ _ _ _ => rfl, ⟨fun _ _ _ _ => rfl, ⟨fun _ _ _ _ => rfl, ⟨fun _ _ _ _ => rfl, ⟨fun m hm c t => by simp only [DA.at, upd_dep (r := [true]) (j := 0) rfl hm], ⟨fun _ _ _ _ => rfl, ⟨fun _ _ _ _ => rfl, ⟨fun _ _ _ _ => rfl, trivial⟩⟩⟩⟩⟩⟩⟩⟩⟩⟩⟩⟩⟩⟩ rfl ⟨.inr ⟨fun cv2 => [], (fun _ _ _ _ => trivial), fun cv2 => Op1.load ty27 (.tmp rfl)⟩, ⟨.inr ⟨fun cv2 => [], (fun _ _ _ _ => trivial), fun cv2 => Op1.move (.tmp rfl)⟩, ⟨.inr ⟨fun cv2 => [], (fun _ _ _ _ => trivial), fun cv2 => Op1.move (.tmp rfl)⟩, ⟨.inr ⟨fun cv2 => [], (fun _ _ _ _ => trivial), fun cv2 => Op1.idx hv40 Try.underlying42 Try.sizeOf23 (.tmp rfl) (.tmp rfl)⟩, ⟨.inr ⟨fun cv2 => [], (fun _ _ _ _ => trivial), fun cv2 => Op1.load ty23 (.tmp rfl)⟩, ⟨.inr ⟨fun cv2 => [], (fun _ _ _ _ => trivial), fun cv2 => Op1.call Try.call16 (r06_Parent_spec _ _ _ _ hv41) ⟨(.tmp rfl), (.tmp rfl), trivial⟩⟩, ⟨.inr ⟨fun cv2 => [], (fun _ _ _ _ => trivial), fun cv2 => Op1.move (.tmp rfl)⟩, ⟨.inr ⟨fun cv2 => [], (fun _ _ _ _ => trivial), fun cv2 => Op1.extract30 (.tmp rfl)⟩, ⟨.inr ⟨fun cv2 => [], (fun _ _ _ _ => trivial), fun cv2 => Op1.extract31 (.tmp rfl)⟩, ⟨.inr ⟨fun cv2 => [], (fun _ _ _ _ => trivial), fun cv2 => Op1.extract32 (.tmp rfl)⟩, ⟨.inl rfl, ⟨.inl rfl, ⟨.inr ⟨fun cv2 => [], (fun _ _ _ _ => trivial), fun cv2 => Op1.assign (.tmp rfl)⟩, ⟨.inr ⟨fun cv2 => [], (fun _ _ _ _ => trivial), fun cv2 => Op1.assign (.tmp rfl)⟩, trivial⟩⟩⟩⟩⟩⟩⟩⟩⟩⟩⟩⟩⟩⟩ ⟨⟨_, _, _, [], (fun cv2 => [(15, (Bx 3 true 23 (tapi_Id.is zapi_Id) (bk (cv2 0))))]), rfl, rfl, rfl, rfl, fun _ => rfl, fun _ _ => rfl, fun cv2 => OpR.viaB (OpR.alloc 15 ze23)⟩, ⟨⟨_, _, _, [15], (fun cv2 => [(15, (Bx 3 true 23 (tapi_Id.is parent.1) (bk (cv2 0))))]), rfl, rfl, rfl, rfl, fun _ => rfl, fun _ _ => rfl, fun cv2 => OpR.viaU (OpR.storeB (b := (bk (cv2 0))) 15 Try.sizeOf23 (Cellable.is tapi_Id parent.1) rfl (.tmp rfl) (.tmp rfl))⟩, trivial⟩⟩ (fun cv2 => ?_)
                      refine WN.seq ?_
                      refine W.sr ?_
                      refine WL.op rfl (Op1.load ty27 (.tmp rfl)) ?_
                      refine WL.mv rfl rfl ?_
                      obtain ⟨insert2, hv42, hm⟩ := bind_some hm
                      refine WL.op rfl (Op1.call Try.call11 (target_InsertionPoint_spec _ _ _ _ _ hv42) ⟨(.tmp rfl), (.tmp rfl), (.int (inR64.2 (by omega))), trivial⟩) ?_
                      refine WL.mv rfl rfl ?_
                      refine WL.op rfl (Op1.extract30 (.tmp rfl)) ?_
                      refine WL.op rfl (Op1.extract31 (.tmp rfl)) ?_
                      refine WL.op rfl (Op1.extract32 (.tmp rfl)) ?_
                      refine WL.opR rfl (OpR.alloc 18 ze23) (fun b2 => ?_)
                      refine WL.opU (OpR.storeB (b := b2) 18 Try.sizeOf23 (Cellable.is tapi_Id insert2.1) rfl (.tmp rfl) (.tmp rfl)) (fun _ => ?_)
                      refine WL.sealed (t := tapi_Id) (u := insert2.1) 18 18 rfl rfl ?_
                      refine WL.gv rfl rfl ?_
                      refine WL.gv rfl rfl ?_
                      refine WL.nr ?_
                      refine WL.op rfl (Op1.load ty27 (.tmp rfl)) ?_
                      refine WL.mv rfl rfl ?_
                      obtain ⟨insert3, hv43, hm⟩ := bind_some hm
                      refine WL.op rfl (Op1.call Try.call11 (target_InsertionPoint_spec _ _ _ _ _ hv43) ⟨(.tmp rfl), (.tmp rfl), (.int (inR64.2 (by omega))), trivial⟩) ?_
                      refine WL.mv rfl rfl ?_
                      refine WL.op rfl (Op1.extract30 (.tmp rfl)) ?_
                      refine WL.op rfl (Op1.extract31 (.tmp rfl)) ?_
                      refine WL.op rfl (Op1.extract32 (.tmp rfl)) ?_
                      refine WL.opR rfl (OpR.alloc 21 ze23) (fun b3 => ?_)
                      refine WL.opU (OpR.storeB (b := b3) 21 Try.sizeOf23 (Cellable.is tapi_Id insert3.1) rfl (.tmp rfl) (.tmp rfl)) (fun _ => ?_)
                      refine WL.sealed (t := tapi_Id) (u := insert3.1) 21 21 rfl rfl ?_
                      refine WL.gv rfl rfl ?_
                      refine WL.gv rfl rfl ?_
                      refine WL.ns ?_
                      refine W.seq ?_
                      refine W.sr ?_
                      refine WL.mv rfl rfl ?_
                      refine WL.op rfl (Op1.notB (.tmp rfl)) ?_
                      refine WL.ns ?_
                      refine W.cond (.tmp rfl) (fun hc44 => ?_) (fun hc44 => ?_)
                      · have hp45 := not_pos hc44
                        rw [if_pos hp45] at hm
                        refine W.seq ?_
                        obtain ⟨s46, hs47, hk48⟩ := bind_some hm
                        clear hm
                        refine W.join (fun s : Bool => s = s46) (fun s => [(133, (tB.is s)), (1, (tapi_Unit.ptr u)), (3, ((tL tapi_Id).is all)), (4, ((tI .i64).is i))]) (fun s => [(7, (Bx 8 true 27 (tapi_Unit.is find.1) (bk (cv1 0)))), (15, (Bx 3 true 23 (tapi_Id.is parent.1) (bk (cv2 0))))]) ?_ ?_
                        · rintro v5 hj55
                          try dsimp only at hj55
                          subst hj55
                          have hm := hk48
                          clear hk48
                          try dsimp only at hm
                          change W _ _ _ _ _ _ _ [(133, (tB.is v5)), (1, (tapi_Unit.ptr u)), (3, ((tL tapi_Id).is all)), (4, ((tI .i64).is i))] [(7, (Bx 8 true 27 (tapi_Unit.is find.1) (bk (cv1 0)))), (15, (Bx 3 true 23 (tapi_Id.is parent.1) (bk (cv2 0))))]
                          refine W.cond (.tmp rfl) (fun hc51 => ?_) (fun hc51 => ?_)
                          · have hp52 := hc51
                            rw [if_pos hp52] at hm
                            refine W.sr ?_
                            refine WL.op rfl (Op1.assign .bool) ?_
                            refine WL.ns ?_
                            have hr53 := Option.some.inj hm
                            clear hm
                            subst hr53
                            have hm := hk10
                            try dsimp only at hm
                            cases hm
                            exact W.ret1 () rfl (.tmp rfl) trivial
                          · have hp52 := ne_of_false hc51
                            rw [if_neg hp52] at hm
                            refine W.skip ?_
                            refine WN.seq ?_
                            refine W.exit rfl ?_
                            refine WN.seq ?_
                            refine W.region ?_
                            refine WL.mv rfl rfl ?_
                            refine WL.lenL (s := 3) (.tmp rfl) fun hl54 => ?_
                            refine WL.op rfl (Op1.addI1 (.tmp rfl) (.int (inR64.2 (by omega))) hp13 hl54) ?_
                            refine WL.gv rfl rfl ?_
                            refine WL.nil ?_
                            exact WN.again n11 (i + 1) (Nat.lt_succ_self n11) hm ⟨Ent.q rfl, Ent.q rfl, Ent.q rfl, trivial⟩ trivial
                        · have hm := hs47
                          clear hs47
                          refine W.region ?_
                          refine WL.mv rfl rfl ?_
                          refine WL.op rfl (Op1.neI (.tmp rfl) (.int (inR64.2 (by omega)))) ?_
                          refine WL.mv rfl rfl ?_
                          rcases bcases (decide (insert2.2.2 ≠ (9 : Int))) with hb49 | hb49
                          · have hp50 := of_decide_eq_true hb49
                            rw [if_pos hp50] at hm
                            refine WL.pass rfl rfl rfl rfl hb49 rfl rfl ?_
                            refine WL.pass rfl rfl rfl rfl hb49 rfl rfl ?_
                            refine WL.op rfl (Op1.pickT (.tmp rfl) hb49 .bool) ?_
                            refine WL.nil ?_
                            exact WN.meet true (Option.some.inj hm) ⟨Ent.q rfl, Ent.q rfl, Ent.q rfl, Ent.q rfl, trivial⟩ ⟨rfl, rfl, ⟨rfl, rfl, trivial⟩⟩
                          · have hp50 := of_decide_eq_false hb49
                            rw [if_neg hp50] at hm
                            refine WL.run rfl rfl rfl rfl hb49 rfl rfl (Op1.move (.tmp rfl)) ?_
                            refine WL.run rfl rfl rfl rfl hb49 rfl rfl (Op1.neI (.tmp rfl) (.int (inR64.2 (by omega)))) ?_
                            refine WL.op rfl (Op1.pickF (.tmp rfl) hb49 (.tmp rfl)) ?_
                            refine WL.nil ?_
                            exact WN.meet (decide (insert3.2.2 ≠ (9 : Int))) (Option.some.inj hm) ⟨Ent.q rfl, Ent.q rfl, Ent.q rfl, Ent.q rfl, trivial⟩ ⟨rfl, rfl, ⟨rfl, rfl, trivial⟩⟩
                      · have hp45 := not_neg hc44
                        rw [if_neg hp45] at hm
                        refine W.skip ?_
                        refine WN.seq ?_
                        refine W.sr ?_
                        refine WL.op rfl (Op1.load ty23 (.tmp rfl)) ?_
                        refine WL.op rfl (Op1.loadB 15 Try.isAgg23 Try.sizeOf23 rfl (.tmp rfl)) ?_
                        refine WL.op rfl (Op1.neSt (D := 2) rfl (by decide) eg23 eq23 (.tmp rfl) (.tmp rfl)) ?_
                        refine WL.mv rfl rfl ?_
                        rcases bcases (decide (insert2.1 ≠ parent.1)) with hb56 | hb56
                        · have hp57 := of_decide_eq_true hb56
                          rw [if_pos hp57] at hm
                          refine WL.pass rfl rfl rfl rfl hb56 rfl rfl ?_
                          refine WL.pass rfl rfl rfl rfl hb56 rfl rfl ?_
                          refine WL.pass rfl rfl rfl rfl hb56 rfl rfl ?_
                          refine WL.op rfl (Op1.pickT (.tmp rfl) hb56 .bool) ?_
                          refine WL.mv rfl rfl ?_
                          refine WL.pass rfl rfl rfl rfl rfl rfl rfl ?_
                          refine WL.pass rfl rfl rfl rfl rfl rfl rfl ?_
                          refine WL.op rfl (Op1.pickT (.tmp rfl) rfl .bool) ?_
                          refine WL.mv rfl rfl ?_
                          refine WL.pass rfl rfl rfl rfl rfl rfl rfl ?_
                          refine WL.pass rfl rfl rfl rfl rfl rfl rfl ?_
                          refine WL.pass rfl rfl rfl rfl rfl rfl rfl ?_
                          refine WL.op rfl (Op1.pickT (.tmp rfl) rfl .bool) ?_
                          refine WL.mv rfl rfl ?_
                          refine WL.pass rfl rfl rfl rfl rfl rfl rfl ?_
                          refine WL.pass rfl rfl rfl rfl rfl rfl rfl ?_
                          refine WL.pass rfl rfl rfl rfl rfl rfl rfl ?_
                          refine WL.pass rfl rfl rfl rfl rfl rfl rfl ?_
                          refine WL.op rfl (Op1.pickT (.tmp rfl) rfl .bool) ?_
                          refine WL.mv rfl rfl ?_
                          refine WL.pass rfl rfl rfl rfl rfl rfl rfl ?_
                          refine WL.pass rfl rfl rfl rfl rfl rfl rfl ?_
                          refine WL.op rfl (Op1.pickT (.tmp rfl) rfl .bool) ?_
                          refine WL.ns ?_
                          refine W.condT (.tmp rfl) ?_
                          refine W.sr ?_
                          refine WL.op rfl (Op1.assign .bool) ?_
                          refine WL.ns ?_
                          have hr58 := Option.some.inj hm
                          clear hm
                          subst hr58
                          have hm := hk10
                          try dsimp only at hm
                          cases hm
                          exact W.ret1 () rfl (.tmp rfl) trivial
                        · have hp57 := of_decide_eq_false hb56
                          rw [if_neg hp57] at hm
                          refine WL.run rfl rfl rfl rfl hb56 rfl rfl (Op1.move (.tmp rfl)) ?_
                          refine WL.run rfl rfl rfl rfl hb56 rfl rfl (Op1.move (.tmp rfl)) ?_
                          refine WL.run rfl rfl rfl rfl hb56 rfl rfl (Op1.neI (.tmp rfl) (.tmp rfl)) ?_
                          refine WL.op rfl (Op1.pickF (.tmp rfl) hb56 (.tmp rfl)) ?_
                          refine WL.mv rfl rfl ?_
                          rcases bcases (decide (insert2.2.1 ≠ parent.2.1)) with hb59 | hb59
                          · have hp60 := of_decide_eq_true hb59
                            rw [if_pos hp60] at hm
                            refine WL.pass rfl rfl rfl rfl hb59 rfl rfl ?_
                            refine WL.pass rfl rfl rfl rfl hb59 rfl rfl ?_
                            refine WL.op rfl (Op1.pickT (.tmp rfl) hb59 .bool) ?_
                            refine WL.mv rfl rfl ?_
                            refine WL.pass rfl rfl rfl rfl rfl rfl rfl ?_
                            refine WL.pass rfl rfl rfl rfl rfl rfl rfl ?_
                            refine WL.pass rfl rfl rfl rfl rfl rfl rfl ?_
                            refine WL.op rfl (Op1.pickT (.tmp rfl) rfl .bool) ?_
                            refine WL.mv rfl rfl ?_
                            refine WL.pass rfl rfl rfl rfl rfl rfl rfl ?_
                            refine WL.pass rfl rfl rfl rfl rfl rfl rfl ?_
                            refine WL.pass rfl rfl rfl rfl rfl rfl rfl ?_
                            refine WL.pass rfl rfl rfl rfl rfl rfl rfl ?_
                            refine WL.op rfl (Op1.pickT (.tmp rfl) rfl .bool) ?_
                            refine WL.mv rfl rfl ?_
                            refine WL.pass rfl rfl rfl rfl rfl rfl rfl ?_
                            refine WL.pass rfl rfl rfl rfl rfl rfl rfl ?_
                            refine WL.op rfl (Op1.pickT (.tmp rfl) rfl .bool) ?_
                            refine WL.ns ?_
                            refine W.condT (.tmp rfl) ?_
                            refine W.sr ?_
                            refine WL.op rfl (Op1.assign .bool) ?_
                            refine WL.ns ?_
                            have hr61 := Option.some.inj hm
                            clear hm
                            subst hr61
                            have hm := hk10
                            try dsimp only at hm
                            cases hm
                            exact W.ret1 () rfl (.tmp rfl) trivial
                          · have hp60 := of_decide_eq_false hb59
                            rw [if_neg hp60] at hm
                            refine WL.run rfl rfl rfl rfl hb59 rfl rfl (Op1.move (.tmp rfl)) ?_
                            refine WL.run rfl rfl rfl rfl hb59 rfl rfl (Op1.neI (.tmp rfl) (.int (inR64.2 (by omega)))) ?_
                            refine WL.op rfl (Op1.pickF (.tmp rfl) hb59 (.tmp rfl)) ?_
                            refine WL.mv rfl rfl ?_
                            rcases bcases (decide (insert2.2.2 ≠ (0 : Int))) with hb62 | hb62
                            · have hp63 := of_decide_eq_true hb62
                              rw [if_pos hp63] at hm
                              refine WL.pass rfl rfl rfl rfl hb62 rfl rfl ?_
                              refine WL.pass rfl rfl rfl rfl hb62 rfl rfl ?_
                              refine WL.pass rfl rfl rfl rfl hb62 rfl rfl ?_
                              refine WL.op rfl (Op1.pickT (.tmp rfl) hb62 .bool) ?_
                              refine WL.mv rfl rfl ?_
                              refine WL.pass rfl rfl rfl rfl rfl rfl rfl ?_
                              refine WL.pass rfl rfl rfl rfl rfl rfl rfl ?_
                              refine WL.pass rfl rfl rfl rfl rfl rfl rfl ?_
                              refine WL.pass rfl rfl rfl rfl rfl rfl rfl ?_
                              refine WL.op rfl (Op1.pickT (.tmp rfl) rfl .bool) ?_
                              refine WL.mv rfl rfl ?_
                              refine WL.pass rfl rfl rfl rfl rfl rfl rfl ?_
                              refine WL.pass rfl rfl rfl rfl rfl rfl rfl ?_
                              refine WL.op rfl (Op1.pickT (.tmp rfl) rfl .bool) ?_
                              refine WL.ns ?_
                              refine W.condT (.tmp rfl) ?_
                              refine W.sr ?_
                              refine WL.op rfl (Op1.assign .bool) ?_
                              refine WL.ns ?_
                              have hr64 := Option.some.inj hm
                              clear hm
                              subst hr64
                              have hm := hk10
                              try dsimp only at hm
                              cases hm
                              exact W.ret1 () rfl (.tmp rfl) trivial
                            · have hp63 := of_decide_eq_false hb62
                              rw [if_neg hp63] at hm
                              refine WL.run rfl rfl rfl rfl hb62 rfl rfl (Op1.load ty23 (.tmp rfl)) ?_
                              refine WL.run rfl rfl rfl rfl hb62 rfl rfl (Op1.loadB 15 Try.isAgg23 Try.sizeOf23 rfl (.tmp rfl)) ?_
                              refine WL.run rfl rfl rfl rfl hb62 rfl rfl (Op1.neSt (D := 2) rfl (by decide) eg23 eq23 (.tmp rfl) (.tmp rfl)) ?_
                              refine WL.op rfl (Op1.pickF (.tmp rfl) hb62 (.tmp rfl)) ?_
                              refine WL.mv rfl rfl ?_
                              rcases bcases (decide (insert3.1 ≠ parent.1)) with hb65 | hb65
                              · have hp66 := of_decide_eq_true hb65
                                rw [if_pos hp66] at hm
                                refine WL.pass rfl rfl rfl rfl hb65 rfl rfl ?_
                                refine WL.pass rfl rfl rfl rfl hb65 rfl rfl ?_
                                refine WL.pass rfl rfl rfl rfl hb65 rfl rfl ?_
                                refine WL.pass rfl rfl rfl rfl hb65 rfl rfl ?_
                                refine WL.op rfl (Op1.pickT (.tmp rfl) hb65 .bool) ?_
                                refine WL.mv rfl rfl ?_
                                refine WL.pass rfl rfl rfl rfl rfl rfl rfl ?_
                                refine WL.pass rfl rfl rfl rfl rfl rfl rfl ?_
                                refine WL.op rfl (Op1.pickT (.tmp rfl) rfl .bool) ?_
                                refine WL.ns ?_
                                refine W.condT (.tmp rfl) ?_
                                refine W.sr ?_
                                refine WL.op rfl (Op1.assign .bool) ?_
                                refine WL.ns ?_
                                have hr67 := Option.some.inj hm
                                clear hm
                                subst hr67
                                have hm := hk10
                                try dsimp only at hm
                                cases hm
                                exact W.ret1 () rfl (.tmp rfl) trivial
                              · have hp66 := of_decide_eq_false hb65
                                rw [if_neg hp66] at hm
                                refine WL.run rfl rfl rfl rfl hb65 rfl rfl (Op1.move (.tmp rfl)) ?_
                                refine WL.run rfl rfl rfl rfl hb65 rfl rfl (Op1.move (.tmp rfl)) ?_
                                obtain ⟨v6, hv68, hm⟩ := bind_some hm
                                refine WL.run rfl rfl rfl rfl hb65 rfl rfl (Op1.addC hv68 (.tmp rfl) (.int (inR64.2 (by omega)))) ?_
                                refine WL.run rfl rfl rfl rfl hb65 rfl rfl (Op1.neI (.tmp rfl) (.tmp rfl)) ?_
                                refine WL.op rfl (Op1.pickF (.tmp rfl) hb65 (.tmp rfl)) ?_
                                refine WL.mv rfl rfl ?_
                                rcases bcases (decide (insert3.2.1 ≠ v6)) with hb69 | hb69
                                · have hp70 := of_decide_eq_true hb69
                                  rw [if_pos hp70] at hm
                                  refine WL.pass rfl rfl rfl rfl hb69 rfl rfl ?_
                                  refine WL.pass rfl rfl rfl rfl hb69 rfl rfl ?_
                                  refine WL.op rfl (Op1.pickT (.tmp rfl) hb69 .bool) ?_
                                  refine WL.ns ?_
                                  refine W.condT (.tmp rfl) ?_
                                  refine W.sr ?_
                                  refine WL.op rfl (Op1.assign .bool) ?_
                                  refine WL.ns ?_
                                  have hr71 := Option.some.inj hm
                                  clear hm
                                  subst hr71
                                  have hm := hk10
                                  try dsimp only at hm
                                  cases hm
                                  exact W.ret1 () rfl (.tmp rfl) trivial
                                · have hp70 := of_decide_eq_false hb69
                                  rw [if_neg hp70] at hm
                                  refine WL.run rfl rfl rfl rfl hb69 rfl rfl (Op1.move (.tmp rfl)) ?_
                                  refine WL.run rfl rfl rfl rfl hb69 rfl rfl (Op1.neI (.tmp rfl) (.int (inR64.2 (by omega)))) ?_
                                  refine WL.op rfl (Op1.pickF (.tmp rfl) hb69 (.tmp rfl)) ?_
                                  refine WL.ns ?_
                                  refine W.cond (.tmp rfl) (fun hc72 => ?_) (fun hc72 => ?_)
                                  · have hp73 := of_decide_eq_true hc72
                                    rw [if_pos hp73] at hm
                                    refine W.sr ?_
                                    refine WL.op rfl (Op1.assign .bool) ?_
                                    refine WL.ns ?_
                                    have hr74 := Option.some.inj hm
                                    clear hm
                                    subst hr74
                                    have hm := hk10
                                    try dsimp only at hm
                                    cases hm
                                    exact W.ret1 () rfl (.tmp rfl) trivial
                                  · have hp73 := of_decide_eq_false hc72
                                    rw [if_neg hp73] at hm
                                    refine W.skip ?_
                                    refine WN.block ?_
                                    refine WN.seq ?_
                                    refine W.region ?_
                                    refine WL.mv rfl rfl ?_
                                    refine WL.lenL (s := 3) (.tmp rfl) fun hl75 => ?_
                                    refine WL.op rfl (Op1.addI1 (.tmp rfl) (.int (inR64.2 (by omega))) hp13 hl75) ?_
                                    refine WL.gv rfl rfl ?_
                                    refine WL.nil ?_
                                    exact WN.again n11 (i + 1) (Nat.lt_succ_self n11) hm ⟨Ent.q rfl, Ent.q rfl, Ent.q rfl, trivial⟩ trivial
        · have hp13 := of_decide_eq_false hc12
          rw [if_neg hp13] at hm
          refine W.exit rfl ?_
          have hr76 := Option.some.inj hm
          clear hm
          subst hr76
          have hm := hk10
          try dsimp only at hm
          refine WN.seq ?_
          refine W.sr ?_
          refine WL.op rfl (Op1.assign .bool) ?_
          refine WL.ns ?_
          cases hm
          exact W.ret1 () rfl (.tmp rfl) trivial

theorem target_Find_spec (n : Nat) (u : api_Unit) (it : api_Item) (r : api_Id × Int) (hm : M.target_Find n u it = some r) : FSpec Try.prog 17 [(tapi_Unit.is u), (tapi_Item.is it)] (Asn.tuple2 (tapi_Id.is r.1) ((tI .i64).is r.2)) := by
  unfold M.target_Find at hm
  refine FSpec.of Try.func17 rfl rfl rfl (fun g0 => ?_)
  refine W.sr ?_
  refine WL.op rfl (Op1.box (.tmp rfl)) ?_
  refine WL.op rfl (Op1.box (.tmp rfl)) ?_
  refine WL.opR rfl (OpR.alloc 4 ze23) (fun b => ?_)
  refine WL.op rfl (Op1.assign (.int (inR64.2 (by omega)))) ?_
  refine WL.nr ?_
  refine WL.op rfl (Op1.load ty27 (.tmp rfl)) ?_
  refine WL.op rfl (Op1.fieldAddr Try.underlying37 rfl (fun w => ⟨0, Try.sizeOf28 w⟩) fapi_Item_1 (.tmp rfl)) ?_
  refine WL.op rfl (Op1.load ty28 (.tmp rfl)) ?_
  obtain ⟨findon, hv1, hm⟩ := bind_some hm
  refine WL.op rfl (Op1.call Try.call26 (address_FindOne_spec _ _ _ _ hv1) ⟨(.tmp rfl), (.tmp rfl), trivial⟩) ?_
  refine WL.op rfl (Op1.extract0 (.tmp rfl)) ?_
  refine WL.op rfl (Op1.extract1 (.tmp rfl)) ?_
  refine WL.opU (OpR.storeB (b := b) 4 Try.sizeOf23 (Cellable.is tapi_Id findon.1) rfl (.tmp rfl) (.tmp rfl)) (fun _ => ?_)
  refine WL.gv rfl rfl ?_
  refine WL.ns ?_
  cases hm
  exact W.retQ2 () rfl rfl (ResAt.cell 4 Try.isAgg23 Try.sizeOf23 rfl (.tmp rfl)) (ResAt.tmp (.tmp rfl)) trivial

theorem target_FindAll_spec (n : Nat) (u : api_Unit) (p : List api_Step) (r : (List api_Id)) (hm : M.target_FindAll n u p = some r) : FSpec Try.prog 20 [(tapi_Unit.is u), ((tL tapi_Step).is p)] ((tL tapi_Id).is r) := by
  unfold M.target_FindAll at hm
  refine FSpec.of Try.func20 rfl rfl rfl (fun g0 => ?_)
  refine W.sr ?_
  refine WL.op rfl (Op1.box (.tmp rfl)) ?_
  refine WL.op rfl (Op1.assign (.nil (t := tapi_Id))) ?_
  refine WL.nr ?_
  refine WL.op rfl (Op1.load ty27 (.tmp rfl)) ?_
  refine WL.mv rfl rfl ?_
  obtain ⟨findal, hv1, hm⟩ := bind_some hm
  refine WL.op rfl (Op1.call Try.call25 (address_FindAll_spec _ _ _ _ hv1) ⟨(.tmp rfl), (.tmp rfl), trivial⟩) ?_
  refine WL.gv rfl rfl ?_
  refine WL.ns ?_
  cases hm
  exact W.ret1 () rfl (.tmp rfl) trivial

theorem r07_Ids_spec (n : Nat) (a : List api_Id) (b : List api_Id) (r : Bool) (hm : M.r07_Ids n a b = some r) : FSpec Try.prog 19 [((tL tapi_Id).is a), ((tL tapi_Id).is b)] (tB.is r) := by
  unfold M.r07_Ids at hm
  refine FSpec.of Try.func19 rfl rfl rfl (fun g0 => ?_)
  refine W.sr ?_
  refine WL.op rfl (Op1.assign .bool) ?_
  refine WL.ns ?_
  refine W.seq ?_
  refine W.sr ?_
  refine WL.mv rfl rfl ?_
  refine WL.op rfl (Op1.lenL Try.underlying42 (.tmp rfl)) ?_
  refine WL.mv rfl rfl ?_
  refine WL.op rfl (Op1.lenL Try.underlying42 (.tmp rfl)) ?_
  refine WL.op rfl (Op1.neI (.tmp rfl) (.tmp rfl)) ?_
  refine WL.ns ?_
  refine W.cond (.tmp rfl) (fun hc1 => ?_) (fun hc1 => ?_)
  · have hp2 := of_decide_eq_true hc1
    rw [if_pos hp2] at hm
    refine W.sr ?_
    refine WL.op rfl (Op1.assign .bool) ?_
    refine WL.ns ?_
    cases hm
    exact W.ret1 () rfl (.tmp rfl) trivial
  · have hp2 := of_decide_eq_false hc1
    rw [if_neg hp2] at hm
    refine W.skip ?_
    refine WN.seq ?_
    refine W.seq ?_
    refine W.sr ?_
    refine WL.op rfl (Op1.assign (.int (inR64.2 (by omega)))) ?_
    refine WL.ns ?_
    refine W.block ?_
    obtain ⟨s3, hs4, hk5⟩ := bind_some hm
    clear hm
    refine W.loop (fun m (s : Int) => M.r07_Ids_loop1 a b m s = some s3) (fun s => [(5, ((tI .i64).is s)), (0, ((tL tapi_Id).is a)), (1, ((tL tapi_Id).is b))]) (fun s => []) _ (0 : Int) hs4 ⟨Ent.q rfl, Ent.q rfl, Ent.q rfl, trivial⟩ trivial ?_
    rintro n6 i hm
    try dsimp only at hm
    change W _ _ _ _ _ _ _ [(5, ((tI .i64).is i)), (0, ((tL tapi_Id).is a)), (1, ((tL tapi_Id).is b))] []
    cases n6 with
    | zero => rw [M.r07_Ids_loop1.eq_1] at hm; cases hm
    | succ n6 =>
      rw [M.r07_Ids_loop1.eq_2] at hm
      refine W.seq ?_
      refine W.sr ?_
      refine WL.mv rfl rfl ?_
      refine WL.mv rfl rfl ?_
      refine WL.op rfl (Op1.lenL Try.underlying42 (.tmp rfl)) ?_
      refine WL.op rfl (Op1.ltI (.tmp rfl) (.tmp rfl)) ?_
      refine WL.ns ?_
      refine W.cond (.tmp rfl) (fun hc7 => ?_) (fun hc7 => ?_)
      · have hp8 := of_decide_eq_true hc7
        rw [if_pos hp8] at hm
        refine W.skip ?_
        refine WN.seq ?_
        refine W.seq ?_
        refine W.block ?_
        refine W.seq ?_
        obtain ⟨v, hv9, hm⟩ := bind_some hm
        obtain ⟨v1, hv10, hm⟩ := bind_some hm
        refine W.draw [.c ((tL tapi_Id).is a), .c ((tI .i64).is i), .c (tapi_Id.ptr v), .c (tapi_Id.is v), .c ((tL tapi_Id).is b), .c ((tI .i64).is i), .c (tapi_Id.ptr v1), .c (tapi_Id.is v1), .c (tB.is (decide (v ≠ v1)))] [([], [0]), ([], [5]), ([0, 1], []), ([2], []), ([], [1]), ([], [5]), ([4, 5], []), ([6], []), ([3, 7], [])] Try.mixed rfl rfl rfl rfl ⟨.inr (Op1.move (.tmp rfl)), .inr (Op1.move (.tmp rfl)), .inr (Op1.idx hv9 Try.underlying42 Try.sizeOf23 (.tmp rfl) (.tmp rfl)), .inr (Op1.load ty23 (.tmp rfl)), .inr (Op1.move (.tmp rfl)), .inr (Op1.move (.tmp rfl)), .inr (Op1.idx hv10 Try.underlying42 Try.sizeOf23 (.tmp rfl) (.tmp rfl)), .inr (Op1.load ty23 (.tmp rfl)), .inr (Op1.neSt (D := 2) rfl (by decide) eg23 eq23 (.tmp rfl) (.tmp rfl)), trivial⟩ ?_
        refine WN.seq ?_
        refine W.cond (.tmp rfl) (fun hc11 => ?_) (fun hc11 => ?_)
        · have hp12 := of_decide_eq_true hc11
          rw [if_pos hp12] at hm
          refine W.sr ?_
          refine WL.op rfl (Op1.assign .bool) ?_
          refine WL.ns ?_
          have hr13 := Option.some.inj hm
          clear hm
          subst hr13
          have hm := hk5
          try dsimp only at hm
          cases hm
          exact W.ret1 () rfl (.tmp rfl) trivial
        · have hp12 := of_decide_eq_false hc11
          rw [if_neg hp12] at hm
          refine W.skip ?_
          refine WN.block ?_
          refine WN.seq ?_
          refine W.region ?_
          refine WL.mv rfl rfl ?_
          refine WL.lenL (s := 0) (.tmp rfl) fun hl14 => ?_
          refine WL.op rfl (Op1.addI1 (.tmp rfl) (.int (inR64.2 (by omega))) hp8 hl14) ?_
          refine WL.gv rfl rfl ?_
          refine WL.nil ?_
          exact WN.again n6 (i + 1) (Nat.lt_succ_self n6) hm ⟨Ent.q rfl, Ent.q rfl, Ent.q rfl, trivial⟩ trivial
      · have hp8 := of_decide_eq_false hc7
        rw [if_neg hp8] at hm
        refine W.exit rfl ?_
        have hr15 := Option.some.inj hm
        clear hm
        subst hr15
        have hm := hk5
        try dsimp only at hm
        refine WN.seq ?_
        refine W.sr ?_
        refine WL.op rfl (Op1.assign .bool) ?_
        refine WL.ns ?_
        cases hm
        exact W.ret1 () rfl (.tmp rfl) trivial

theorem law21_TargetFind_spec (n : Nat) (u : api_Unit) (it : api_Item) (r : Bool) (hm : M.law21_TargetFind n u it = some r) : FSpec Try.prog 5 [(tapi_Unit.is u), (tapi_Item.is it)] (tB.is r) := by
  unfold M.law21_TargetFind at hm
  refine FSpec.of Try.func5 rfl rfl rfl (fun g0 => ?_)
  refine W.sr ?_
  refine WL.op rfl (Op1.box (.tmp rfl)) ?_
  refine WL.op rfl (Op1.box (.tmp rfl)) ?_
  refine WL.op rfl (Op1.assign .bool) ?_
  refine WL.ns ?_
  refine W.seq ?_
  refine W.sr ?_
  obtain ⟨awake, hv1, hm⟩ := bind_some hm
  refine WL.op rfl (Op1.call Try.call8 (law21_awake_spec _ _ hv1) trivial) ?_
  refine WL.op rfl (Op1.notB (.tmp rfl)) ?_
  refine WL.ns ?_
  refine W.cond (.tmp rfl) (fun hc2 => ?_) (fun hc2 => ?_)
  · have hp3 := not_pos hc2
    rw [if_pos hp3] at hm
    refine W.sr ?_
    refine WL.op rfl (Op1.assign .bool) ?_
    refine WL.ns ?_
    cases hm
    exact W.ret1 () rfl (.tmp rfl) trivial
  · have hp3 := not_neg hc2
    rw [if_neg hp3] at hm
    refine W.skip ?_
    refine WN.seq ?_
    refine W.seq ?_
    obtain ⟨s4, hs5, hk6⟩ := bind_some hm
    clear hm
    refine W.join (fun s : Bool => s = s4) (fun s => [(18, (tB.is s)), (2, (tapi_Unit.ptr u)), (3, (tapi_Item.ptr it))]) (fun s => []) ?_ ?_
    · rintro v hj22
      try dsimp only at hj22
      subst hj22
      have hm := hk6
      clear hk6
      try dsimp only at hm
      change W _ _ _ _ _ _ _ [(18, (tB.is v)), (2, (tapi_Unit.ptr u)), (3, (tapi_Item.ptr it))] []
      refine W.cond (.tmp rfl) (fun hc11 => ?_) (fun hc11 => ?_)
      · have hp12 := hc11
        rw [if_pos hp12] at hm
        refine W.sr ?_
        refine WL.op rfl (Op1.assign .bool) ?_
        refine WL.ns ?_
        cases hm
        exact W.ret1 () rfl (.tmp rfl) trivial
      · have hp12 := ne_of_false hc11
        rw [if_neg hp12] at hm
        refine W.skip ?_
        refine WN.seq ?_
        refine W.sr ?_
        refine WL.op rfl (Op1.load ty27 (.tmp rfl)) ?_
        refine WL.op rfl (Op1.load ty37 (.tmp rfl)) ?_
        obtain ⟨find, hv13, hm⟩ := bind_some hm
        refine WL.op rfl (Op1.call Try.call17 (target_Find_spec _ _ _ _ hv13) ⟨(.tmp rfl), (.tmp rfl), trivial⟩) ?_
        refine WL.mv rfl rfl ?_
        refine WL.op rfl (Op1.extract0 (.tmp rfl)) ?_
        refine WL.op rfl (Op1.extract1 (.tmp rfl)) ?_
        refine WL.opR rfl (OpR.alloc 5 ze23) (fun b => ?_)
        refine WL.opU (OpR.storeB (b := b) 5 Try.sizeOf23 (Cellable.is tapi_Id find.1) rfl (.tmp rfl) (.tmp rfl)) (fun _ => ?_)
        refine WL.sealed (t := tapi_Id) (u := find.1) 5 5 rfl rfl ?_
        refine WL.gv rfl rfl ?_
        refine WL.nr ?_
        refine WL.op rfl (Op1.load ty27 (.tmp rfl)) ?_
        refine WL.op rfl (Op1.fieldAddr Try.underlying37 rfl (fun w => ⟨0, Try.sizeOf28 w⟩) fapi_Item_1 (.tmp rfl)) ?_
        refine WL.op rfl (Op1.load ty28 (.tmp rfl)) ?_
        obtain ⟨one, hv14, hm⟩ := bind_some hm
        refine WL.op rfl (Op1.call Try.call18 (r07_One_spec _ _ _ _ hv14) ⟨(.tmp rfl), (.tmp rfl), trivial⟩) ?_
        refine WL.mv rfl rfl ?_
        refine WL.op rfl (Op1.extract0 (.tmp rfl)) ?_
        refine WL.op rfl (Op1.extract1 (.tmp rfl)) ?_
        refine WL.opR rfl (OpR.alloc 7 ze23) (fun b1 => ?_)
        refine WL.opU (OpR.storeB (b := b1) 7 Try.sizeOf23 (Cellable.is tapi_Id one.1) rfl (.tmp rfl) (.tmp rfl)) (fun _ => ?_)
        refine WL.sealed (t := tapi_Id) (u := one.1) 7 7 rfl rfl ?_
        refine WL.gv rfl rfl ?_
        refine WL.ns ?_
        refine W.seq ?_
        rcases bcases (decide (find.1 = one.1)) with hb15 | hb15
        · have hp16 := of_decide_eq_true hb15
          rw [if_pos hp16] at hm
          rcases bcases (decide (find.2 = one.2)) with hb17 | hb17
          · have hp18 := of_decide_eq_true hb17
            rw [if_pos hp18] at hm
            obtain ⟨findal, hv19, hm⟩ := bind_some hm
            obtain ⟨find1, hv20, hm⟩ := bind_some hm
            obtain ⟨ids, hv21, hm⟩ := bind_some hm
            refine W.draw [.c (tapi_Id.is find.1), .c (tapi_Id.is one.1), .c (tB.is (decide (find.1 = one.1))), .c (tB.is (decide (find.1 = one.1))), .c ((tI .i64).is find.2), .c ((tI .i64).is one.2), .c (tB.is (decide (find.2 = one.2))), .c (tB.is (decide (find.2 = one.2))), .c (tB.is (decide (find.2 = one.2))), .c (tapi_Unit.is u), .c ((tL tapi_Step).ptr it.At), .c ((tL tapi_Step).is it.At), .c ((tL tapi_Id).is findal), .c (tapi_Unit.is u), .c ((tL tapi_Step).ptr it.At), .c ((tL tapi_Step).is it.At), .c ((tL tapi_Id).is find1), .c (tB.is ids), .c (tB.is ids), .c (tB.is ids)] [([], [5]), ([], [7]), ([0, 1], []), ([2], []), ([3], [6]), ([3], [8]), ([3, 4, 5], []), ([3, 6], []), ([7], []), ([8], [2]), ([8], [3]), ([8, 10], []), ([8, 9, 11], []), ([8], [2]), ([8], [3]), ([8, 14], []), ([8, 13, 15], []), ([8, 12, 16], []), ([8, 17], []), ([18], [])] Try.mixed rfl rfl rfl rfl ⟨.inr (Op1.load ty23 (.tmp rfl)), .inr (Op1.load ty23 (.tmp rfl)), .inr (Op1.eqSt (D := 2) rfl (by decide) eg23 eq23 (.tmp rfl) (.tmp rfl)), .inr (Op1.move (.tmp rfl)), .inr ⟨_, _, _, rfl, rfl, .inl ⟨rfl, .inl ⟨hb15, Op1.move (.tmp rfl)⟩⟩⟩, .inr ⟨_, _, _, rfl, rfl, .inl ⟨rfl, .inl ⟨hb15, Op1.move (.tmp rfl)⟩⟩⟩, .inr ⟨_, _, _, rfl, rfl, .inl ⟨rfl, .inl ⟨hb15, Op1.eqI (.tmp rfl) (.tmp rfl)⟩⟩⟩, .inr (Op1.pickT (.tmp rfl) hb15 (.tmp rfl)), .inr (Op1.move (.tmp rfl)), .inr ⟨_, _, _, rfl, rfl, .inl ⟨rfl, .inl ⟨hb17, Op1.load ty27 (.tmp rfl)⟩⟩⟩, .inr ⟨_, _, _, rfl, rfl, .inl ⟨rfl, .inl ⟨hb17, Op1.fieldAddr Try.underlying37 rfl (fun w => ⟨0, Try.sizeOf28 w⟩) fapi_Item_1 (.tmp rfl)⟩⟩⟩, .inr ⟨_, _, _, rfl, rfl, .inl ⟨rfl, .inl ⟨hb17, Op1.load ty28 (.tmp rfl)⟩⟩⟩, .inr ⟨_, _, _, rfl, rfl, .inl ⟨rfl, .inl ⟨hb17, Op1.call Try.call20 (target_FindAll_spec _ _ _ _ hv19) ⟨(.tmp rfl), (.tmp rfl), trivial⟩⟩⟩⟩, .inr ⟨_, _, _, rfl, rfl, .inl ⟨rfl, .inl ⟨hb17, Op1.load ty27 (.tmp rfl)⟩⟩⟩, .inr ⟨_, _, _, rfl, rfl, .inl ⟨rfl, .inl ⟨hb17, Op1.fieldAddr Try.underlying37 rfl (fun w => ⟨0, Try.sizeOf28 w⟩) fapi_Item_1 (.tmp rfl)⟩⟩⟩, .inr ⟨_, _, _, rfl, rfl, .inl ⟨rfl, .inl ⟨hb17, Op1.load ty28 (.tmp rfl)⟩⟩⟩, .inr ⟨_, _, _, rfl, rfl, .inl ⟨rfl, .inl ⟨hb17, Op1.call Try.call21 (r07_Find_spec _ _ _ _ hv20) ⟨(.tmp rfl), (.tmp rfl), trivial⟩⟩⟩⟩, .inr ⟨_, _, _, rfl, rfl, .inl ⟨rfl, .inl ⟨hb17, Op1.call Try.call19 (r07_Ids_spec _ _ _ _ hv21) ⟨(.tmp rfl), (.tmp rfl), trivial⟩⟩⟩⟩, .inr (Op1.pickT (.tmp rfl) hb17 (.tmp rfl)), .inr (Op1.assign (.tmp rfl)), trivial⟩ ?_
            refine WN.seq ?_
            cases hm
            exact W.ret1 () rfl (.tmp rfl) trivial
          · have hp18 := of_decide_eq_false hb17
            rw [if_neg hp18] at hm
            refine W.draw [.c (tapi_Id.is find.1), .c (tapi_Id.is one.1), .c (tB.is (decide (find.1 = one.1))), .c (tB.is (decide (find.1 = one.1))), .c ((tI .i64).is find.2), .c ((tI .i64).is one.2), .c (tB.is (decide (find.2 = one.2))), .c (tB.is (decide (find.2 = one.2))), .c (tB.is (decide (find.2 = one.2))), .c (Asn.eq undef), .c (Asn.eq undef), .c (Asn.eq undef), .c (Asn.eq undef), .c (Asn.eq undef), .c (Asn.eq undef), .c (Asn.eq undef), .c (Asn.eq undef), .c (Asn.eq undef), .c (tB.is false), .c (tB.is false)] [([], [5]), ([], [7]), ([0, 1], []), ([2], []), ([3], [6]), ([3], [8]), ([3, 4, 5], []), ([3, 6], []), ([7], []), ([8], [2]), ([8], [3]), ([8, 10], []), ([8, 9, 11], []), ([8], [2]), ([8], [3]), ([8, 14], []), ([8, 13, 15], []), ([8, 12, 16], []), ([8, 17], []), ([18], [])] Try.mixed rfl rfl rfl rfl ⟨.inr (Op1.load ty23 (.tmp rfl)), .inr (Op1.load ty23 (.tmp rfl)), .inr (Op1.eqSt (D := 2) rfl (by decide) eg23 eq23 (.tmp rfl) (.tmp rfl)), .inr (Op1.move (.tmp rfl)), .inr ⟨_, _, _, rfl, rfl, .inl ⟨rfl, .inl ⟨hb15, Op1.move (.tmp rfl)⟩⟩⟩, .inr ⟨_, _, _, rfl, rfl, .inl ⟨rfl, .inl ⟨hb15, Op1.move (.tmp rfl)⟩⟩⟩, .inr ⟨_, _, _, rfl, rfl, .inl ⟨rfl, .inl ⟨hb15, Op1.eqI (.tmp rfl) (.tmp rfl)⟩⟩⟩, .inr (Op1.pickT (.tmp rfl) hb15 (.tmp rfl)), .inr (Op1.move (.tmp rfl)), .inr ⟨_, _, _, rfl, rfl, .inl ⟨rfl, .inr ⟨hb17, rfl⟩⟩⟩, .inr ⟨_, _, _, rfl, rfl, .inl ⟨rfl, .inr ⟨hb17, rfl⟩⟩⟩, .inr ⟨_, _, _, rfl, rfl, .inl ⟨rfl, .inr ⟨hb17, rfl⟩⟩⟩, .inr ⟨_, _, _, rfl, rfl, .inl ⟨rfl, .inr ⟨hb17, rfl⟩⟩⟩, .inr ⟨_, _, _, rfl, rfl, .inl ⟨rfl, .inr ⟨hb17, rfl⟩⟩⟩, .inr ⟨_, _, _, rfl, rfl, .inl ⟨rfl, .inr ⟨hb17, rfl⟩⟩⟩, .inr ⟨_, _, _, rfl, rfl, .inl ⟨rfl, .inr ⟨hb17, rfl⟩⟩⟩, .inr ⟨_, _, _, rfl, rfl, .inl ⟨rfl, .inr ⟨hb17, rfl⟩⟩⟩, .inr ⟨_, _, _, rfl, rfl, .inl ⟨rfl, .inr ⟨hb17, rfl⟩⟩⟩, .inr (Op1.pickF (.tmp rfl) hb17 .bool), .inr (Op1.assign (.tmp rfl)), trivial⟩ ?_
            refine WN.seq ?_
            cases hm
            exact W.ret1 () rfl (.tmp rfl) trivial
        · have hp16 := of_decide_eq_false hb15
          rw [if_neg hp16] at hm
          refine W.draw [.c (tapi_Id.is find.1), .c (tapi_Id.is one.1), .c (tB.is (decide (find.1 = one.1))), .c (tB.is (decide (find.1 = one.1))), .c (Asn.eq undef), .c (Asn.eq undef), .c (Asn.eq undef), .c (tB.is false), .c (tB.is false), .c (Asn.eq undef), .c (Asn.eq undef), .c (Asn.eq undef), .c (Asn.eq undef), .c (Asn.eq undef), .c (Asn.eq undef), .c (Asn.eq undef), .c (Asn.eq undef), .c (Asn.eq undef), .c (tB.is false), .c (tB.is false)] [([], [5]), ([], [7]), ([0, 1], []), ([2], []), ([3], [6]), ([3], [8]), ([3, 4, 5], []), ([3, 6], []), ([7], []), ([8], [2]), ([8], [3]), ([8, 10], []), ([8, 9, 11], []), ([8], [2]), ([8], [3]), ([8, 14], []), ([8, 13, 15], []), ([8, 12, 16], []), ([8, 17], []), ([18], [])] Try.mixed rfl rfl rfl rfl ⟨.inr (Op1.load ty23 (.tmp rfl)), .inr (Op1.load ty23 (.tmp rfl)), .inr (Op1.eqSt (D := 2) rfl (by decide) eg23 eq23 (.tmp rfl) (.tmp rfl)), .inr (Op1.move (.tmp rfl)), .inr ⟨_, _, _, rfl, rfl, .inl ⟨rfl, .inr ⟨hb15, rfl⟩⟩⟩, .inr ⟨_, _, _, rfl, rfl, .inl ⟨rfl, .inr ⟨hb15, rfl⟩⟩⟩, .inr ⟨_, _, _, rfl, rfl, .inl ⟨rfl, .inr ⟨hb15, rfl⟩⟩⟩, .inr (Op1.pickF (.tmp rfl) hb15 .bool), .inr (Op1.move (.tmp rfl)), .inr ⟨_, _, _, rfl, rfl, .inl ⟨rfl, .inr ⟨rfl, rfl⟩⟩⟩, .inr ⟨_, _, _, rfl, rfl, .inl ⟨rfl, .inr ⟨rfl, rfl⟩⟩⟩, .inr ⟨_, _, _, rfl, rfl, .inl ⟨rfl, .inr ⟨rfl, rfl⟩⟩⟩, .inr ⟨_, _, _, rfl, rfl, .inl ⟨rfl, .inr ⟨rfl, rfl⟩⟩⟩, .inr ⟨_, _, _, rfl, rfl, .inl ⟨rfl, .inr ⟨rfl, rfl⟩⟩⟩, .inr ⟨_, _, _, rfl, rfl, .inl ⟨rfl, .inr ⟨rfl, rfl⟩⟩⟩, .inr ⟨_, _, _, rfl, rfl, .inl ⟨rfl, .inr ⟨rfl, rfl⟩⟩⟩, .inr ⟨_, _, _, rfl, rfl, .inl ⟨rfl, .inr ⟨rfl, rfl⟩⟩⟩, .inr ⟨_, _, _, rfl, rfl, .inl ⟨rfl, .inr ⟨rfl, rfl⟩⟩⟩, .inr (Op1.pickF (.tmp rfl) rfl .bool), .inr (Op1.assign (.tmp rfl)), trivial⟩ ?_
          refine WN.seq ?_
          cases hm
          exact W.ret1 () rfl (.tmp rfl) trivial
    · have hm := hs5
      clear hs5
      refine W.region ?_
      refine WL.op rfl (Op1.load ty27 (.tmp rfl)) ?_
      obtain ⟨book, hv7, hm⟩ := bind_some hm
      refine WL.op rfl (Op1.call Try.call9 (law21_book_spec _ _ _ hv7) ⟨(.tmp rfl), trivial⟩) ?_
      refine WL.op rfl (Op1.notB (.tmp rfl)) ?_
      refine WL.mv rfl rfl ?_
      rcases bcases (!book) with hb8 | hb8
      · have hp9 := not_pos hb8
        rw [if_pos hp9] at hm
        refine WL.pass rfl rfl rfl rfl hb8 rfl rfl ?_
        refine WL.pass rfl rfl rfl rfl hb8 rfl rfl ?_
        refine WL.pass rfl rfl rfl rfl hb8 rfl rfl ?_
        refine WL.op rfl (Op1.pickT (.tmp rfl) hb8 .bool) ?_
        refine WL.nil ?_
        exact WN.meet true (Option.some.inj hm) ⟨Ent.q rfl, Ent.q rfl, Ent.q rfl, trivial⟩ trivial
      · have hp9 := not_neg hb8
        rw [if_neg hp9] at hm
        refine WL.run rfl rfl rfl rfl hb8 rfl rfl (Op1.load ty37 (.tmp rfl)) ?_
        obtain ⟨few, hv10, hm⟩ := bind_some hm
        refine WL.run rfl rfl rfl rfl hb8 rfl rfl (Op1.call Try.call10 (r17_Few_spec _ _ _ hv10) ⟨(.tmp rfl), trivial⟩) ?_
        refine WL.run rfl rfl rfl rfl hb8 rfl rfl (Op1.notB (.tmp rfl)) ?_
        refine WL.op rfl (Op1.pickF (.tmp rfl) hb8 (.tmp rfl)) ?_
        refine WL.nil ?_
        exact WN.meet (!few) (Option.some.inj hm) ⟨Ent.q rfl, Ent.q rfl, Ent.q rfl, trivial⟩ trivial

end Go.Proofs.Ytfclekegoleiaaa
