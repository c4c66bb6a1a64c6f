/-
  The code does what the models say: written by program.
-/
import Derived.Test.YtfclekegoleiaaaWb
set_option linter.unusedVariables false
set_option linter.unusedSimpArgs false
namespace Go.Proofs.Ytfclekegoleiaaa
open Go Go.Dec

set_option maxRecDepth 100000
set_option maxHeartbeats 4000000
theorem r17_Few_spec : ∀ (n : Nat) (x : api_Item) (r : Bool), M.r17_Few n x = some r → FSpec Try.prog 10 [(tapi_Item.is x)] (tB.is r) := by
  intro n
  induction n with
  | zero => intro x r hm; cases hm
  | succ n ih =>
    intro x r hm
    rw [M.r17_Few.eq_2] at hm
    refine FSpec.of Try.func10 rfl rfl rfl (fun g0 => ?_)
    refine W.seq ?_
    refine W.region ?_
    refine WL.op rfl (Op1.box (.tmp rfl)) ?_
    refine WL.op rfl (Op1.assign .bool) ?_
    refine WL.nil ?_
    refine WN.seq ?_
    refine W.seq ?_
    obtain ⟨s1, hs2, hk3⟩ := bind_some hm
    clear hm
    refine W.join (fun s : Bool => s = s1) (fun s => [(66, (tB.is s)), (1, (tapi_Item.ptr x))]) (fun s => []) ?_ ?_
    · rintro v hj100
      try dsimp only at hj100
      subst hj100
      have hm := hk3
      clear hk3
      try dsimp only at hm
      change W _ _ _ _ _ _ _ [(66, (tB.is v)), (1, (tapi_Item.ptr x))] []
      refine W.cond (.tmp rfl) (fun hc23 => ?_) (fun hc23 => ?_)
      · have hp24 := hc23
        rw [if_pos hp24] at hm
        refine W.seq ?_
        refine W.region ?_
        refine WL.op rfl (Op1.assign .bool) ?_
        refine WL.nil ?_
        refine WN.seq ?_
        have hr := Option.some.inj hm
        clear hm
        subst hr
        exact W.ret1 () rfl (.tmp rfl) trivial
      · have hp24 := ne_of_false hc23
        rw [if_neg hp24] at hm
        refine W.skip ?_
        refine WN.seq ?_
        refine W.seq ?_
        refine W.seq ?_
        refine W.region ?_
        refine WL.op rfl (Op1.assign (.int (inR64.2 (by omega)))) ?_
        refine WL.nil ?_
        refine WN.seq ?_
        refine W.block ?_
        obtain ⟨s25, hs26, hk27⟩ := bind_some hm
        clear hm
        refine W.loop (fun m (s : Int) => M.r17_Few_loop1 x m s = some s25) (fun s => [(3, ((tI .i64).is s)), (1, (tapi_Item.ptr x))]) (fun s => []) _ (0 : Int) hs26 ⟨Ent.q rfl, Ent.q rfl, trivial⟩ trivial ?_
        rintro n28 i hm
        try dsimp only at hm
        change W _ _ _ _ _ _ _ [(3, ((tI .i64).is i)), (1, (tapi_Item.ptr x))] []
        cases n28 with
        | zero => rw [M.r17_Few_loop1.eq_1] at hm; cases hm
        | succ n28 =>
          rw [M.r17_Few_loop1.eq_2] at hm
          refine W.seq ?_
          refine W.seq ?_
          refine W.region ?_
          refine WL.op rfl (Op1.move (.tmp rfl)) ?_
          refine WL.op rfl (Op1.fieldAddr Try.underlying37 rfl (fun w => ⟨0, Try.sizeOf32 w⟩) fapi_Item_6 (.tmp rfl)) ?_
          refine WL.op rfl (Op1.load ty32 (.tmp rfl)) ?_
          refine WL.op rfl (Op1.lenL Try.underlying32 (.tmp rfl)) ?_
          refine WL.op rfl (Op1.ltI (.tmp rfl) (.tmp rfl)) ?_
          refine WL.nil ?_
          refine WN.seq ?_
          refine W.cond (.tmp rfl) (fun hc29 => ?_) (fun hc29 => ?_)
          · have hp30 := of_decide_eq_true hc29
            rw [if_pos hp30] at hm
            refine W.skip ?_
            refine WN.seq ?_
            refine W.seq ?_
            refine W.block ?_
            refine W.seq ?_
            refine W.region ?_
            refine WL.op rfl (Op1.fieldAddr Try.underlying37 rfl (fun w => ⟨0, Try.sizeOf32 w⟩) fapi_Item_6 (.tmp rfl)) ?_
            refine WL.op rfl (Op1.load ty32 (.tmp rfl)) ?_
            refine WL.op rfl (Op1.move (.tmp rfl)) ?_
            obtain ⟨v1, hv31, hm⟩ := bind_some hm
            refine WL.op rfl (Op1.idx hv31 Try.underlying32 Try.sizeOf9 (.tmp rfl) (.tmp rfl)) ?_
            refine WL.op rfl (Op1.load ty9 (.tmp rfl)) ?_
            refine WL.op rfl (Op1.lenS Try.underlying9 (.tmp rfl)) ?_
            refine WL.op rfl (Op1.gtI (.tmp rfl) (.int (inR64.2 (by omega)))) ?_
            refine WL.nil ?_
            refine WN.seq ?_
            refine W.cond (.tmp rfl) (fun hc32 => ?_) (fun hc32 => ?_)
            · have hp33 := of_decide_eq_true hc32
              rw [if_pos hp33] at hm
              refine W.seq ?_
              refine W.region ?_
              refine WL.op rfl (Op1.assign .bool) ?_
              refine WL.nil ?_
              refine WN.seq ?_
              have hr34 := Option.some.inj hm
              clear hm
              subst hr34
              have hm := hk27
              try dsimp only at hm
              have hr := Option.some.inj hm
              clear hm
              subst hr
              exact W.ret1 () rfl (.tmp rfl) trivial
            · have hp33 := of_decide_eq_false hc32
              rw [if_neg hp33] at hm
              refine W.skip ?_
              refine WN.block ?_
              refine WN.seq ?_
              refine W.region ?_
              refine WL.op rfl (Op1.move (.tmp rfl)) ?_
              refine WL.lenL (s := 69) (.tmp rfl) fun hl35 => ?_
              refine WL.op rfl (Op1.addI1 (.tmp rfl) (.int (inR64.2 (by omega))) hp30 hl35) ?_
              refine WL.op rfl (Op1.assign (.tmp rfl)) ?_
              refine WL.nil ?_
              exact WN.again n28 (i + 1) (Nat.lt_succ_self n28) hm ⟨Ent.q rfl, Ent.q rfl, trivial⟩ trivial
          · have hp30 := of_decide_eq_false hc29
            rw [if_neg hp30] at hm
            refine W.exit rfl ?_
            have hr36 := Option.some.inj hm
            clear hm
            subst hr36
            have hm := hk27
            try dsimp only at hm
            refine WN.seq ?_
            refine W.seq ?_
            refine W.seq ?_
            refine W.region ?_
            refine WL.op rfl (Op1.assign (.int (inR64.2 (by omega)))) ?_
            refine WL.nil ?_
            refine WN.seq ?_
            refine W.block ?_
            obtain ⟨s37, hs38, hk39⟩ := bind_some hm
            clear hm
            refine W.loop (fun m (s : Int) => M.r17_Few_loop2 x m s = some s37) (fun s => [(4, ((tI .i64).is s)), (1, (tapi_Item.ptr x))]) (fun s => []) _ (0 : Int) hs38 ⟨Ent.q rfl, Ent.q rfl, trivial⟩ trivial ?_
            rintro n40 i1 hm
            try dsimp only at hm
            change W _ _ _ _ _ _ _ [(4, ((tI .i64).is i1)), (1, (tapi_Item.ptr x))] []
            cases n40 with
            | zero => rw [M.r17_Few_loop2.eq_1] at hm; cases hm
            | succ n40 =>
              rw [M.r17_Few_loop2.eq_2] at hm
              refine W.seq ?_
              refine W.seq ?_
              refine W.region ?_
              refine WL.op rfl (Op1.move (.tmp rfl)) ?_
              refine WL.op rfl (Op1.fieldAddr Try.underlying37 rfl (fun w => ⟨0, Try.sizeOf32 w⟩) fapi_Item_7 (.tmp rfl)) ?_
              refine WL.op rfl (Op1.load ty32 (.tmp rfl)) ?_
              refine WL.op rfl (Op1.lenL Try.underlying32 (.tmp rfl)) ?_
              refine WL.op rfl (Op1.ltI (.tmp rfl) (.tmp rfl)) ?_
              refine WL.nil ?_
              refine WN.seq ?_
              refine W.cond (.tmp rfl) (fun hc41 => ?_) (fun hc41 => ?_)
              · have hp42 := of_decide_eq_true hc41
                rw [if_pos hp42] at hm
                refine W.skip ?_
                refine WN.seq ?_
                refine W.seq ?_
                refine W.block ?_
                refine W.seq ?_
                refine W.region ?_
                refine WL.op rfl (Op1.fieldAddr Try.underlying37 rfl (fun w => ⟨0, Try.sizeOf32 w⟩) fapi_Item_7 (.tmp rfl)) ?_
                refine WL.op rfl (Op1.load ty32 (.tmp rfl)) ?_
                refine WL.op rfl (Op1.move (.tmp rfl)) ?_
                obtain ⟨v2, hv43, hm⟩ := bind_some hm
                refine WL.op rfl (Op1.idx hv43 Try.underlying32 Try.sizeOf9 (.tmp rfl) (.tmp rfl)) ?_
                refine WL.op rfl (Op1.load ty9 (.tmp rfl)) ?_
                refine WL.op rfl (Op1.lenS Try.underlying9 (.tmp rfl)) ?_
                refine WL.op rfl (Op1.gtI (.tmp rfl) (.int (inR64.2 (by omega)))) ?_
                refine WL.nil ?_
                refine WN.seq ?_
                refine W.cond (.tmp rfl) (fun hc44 => ?_) (fun hc44 => ?_)
                · have hp45 := of_decide_eq_true hc44
                  rw [if_pos hp45] at hm
                  refine W.seq ?_
                  refine W.region ?_
                  refine WL.op rfl (Op1.assign .bool) ?_
                  refine WL.nil ?_
                  refine WN.seq ?_
                  have hr46 := Option.some.inj hm
                  clear hm
                  subst hr46
                  have hm := hk39
                  try dsimp only at hm
                  have hr := Option.some.inj hm
                  clear hm
                  subst hr
                  exact W.ret1 () rfl (.tmp rfl) trivial
                · have hp45 := of_decide_eq_false hc44
                  rw [if_neg hp45] at hm
                  refine W.skip ?_
                  refine WN.block ?_
                  refine WN.seq ?_
                  refine W.region ?_
                  refine WL.op rfl (Op1.move (.tmp rfl)) ?_
                  refine WL.lenL (s := 83) (.tmp rfl) fun hl47 => ?_
                  refine WL.op rfl (Op1.addI1 (.tmp rfl) (.int (inR64.2 (by omega))) hp42 hl47) ?_
                  refine WL.op rfl (Op1.assign (.tmp rfl)) ?_
                  refine WL.nil ?_
                  exact WN.again n40 (i1 + 1) (Nat.lt_succ_self n40) hm ⟨Ent.q rfl, Ent.q rfl, trivial⟩ trivial
              · have hp42 := of_decide_eq_false hc41
                rw [if_neg hp42] at hm
                refine W.exit rfl ?_
                have hr48 := Option.some.inj hm
                clear hm
                subst hr48
                have hm := hk39
                try dsimp only at hm
                refine WN.seq ?_
                refine W.seq ?_
                refine W.seq ?_
                refine W.region ?_
                refine WL.op rfl (Op1.assign (.int (inR64.2 (by omega)))) ?_
                refine WL.nil ?_
                refine WN.seq ?_
                refine W.block ?_
                obtain ⟨s49, hs50, hk51⟩ := bind_some hm
                clear hm
                refine W.loop (fun m (s : Int) => M.r17_Few_loop3 x m s = some s49) (fun s => [(5, ((tI .i64).is s)), (1, (tapi_Item.ptr x))]) (fun s => []) _ (0 : Int) hs50 ⟨Ent.q rfl, Ent.q rfl, trivial⟩ trivial ?_
                rintro n52 i2 hm
                try dsimp only at hm
                change W _ _ _ _ _ _ _ [(5, ((tI .i64).is i2)), (1, (tapi_Item.ptr x))] []
                cases n52 with
                | zero => rw [M.r17_Few_loop3.eq_1] at hm; cases hm
                | succ n52 =>
                  rw [M.r17_Few_loop3.eq_2] at hm
                  refine W.seq ?_
                  refine W.seq ?_
                  refine W.region ?_
                  refine WL.op rfl (Op1.move (.tmp rfl)) ?_
                  refine WL.op rfl (Op1.fieldAddr Try.underlying37 rfl (fun w => ⟨0, Try.sizeOf28 w⟩) fapi_Item_1 (.tmp rfl)) ?_
                  refine WL.op rfl (Op1.load ty28 (.tmp rfl)) ?_
                  refine WL.op rfl (Op1.lenL Try.underlying28 (.tmp rfl)) ?_
                  refine WL.op rfl (Op1.ltI (.tmp rfl) (.tmp rfl)) ?_
                  refine WL.nil ?_
                  refine WN.seq ?_
                  refine W.cond (.tmp rfl) (fun hc53 => ?_) (fun hc53 => ?_)
                  · have hp54 := of_decide_eq_true hc53
                    rw [if_pos hp54] at hm
                    refine W.skip ?_
                    refine WN.seq ?_
                    refine W.seq ?_
                    refine W.block ?_
                    refine W.seq ?_
                    refine W.region ?_
                    refine WL.op rfl (Op1.fieldAddr Try.underlying37 rfl (fun w => ⟨0, Try.sizeOf28 w⟩) fapi_Item_1 (.tmp rfl)) ?_
                    refine WL.op rfl (Op1.load ty28 (.tmp rfl)) ?_
                    refine WL.op rfl (Op1.move (.tmp rfl)) ?_
                    obtain ⟨v3, hv55, hm⟩ := bind_some hm
                    refine WL.op rfl (Op1.idx hv55 Try.underlying28 Try.sizeOf63 (.tmp rfl) (.tmp rfl)) ?_
                    refine WL.op rfl (Op1.fieldAddr Try.underlying63 rfl (fun w => ⟨0, Try.sizeOf9 w⟩) fapi_Step_1 (.tmp rfl)) ?_
                    refine WL.op rfl (Op1.load ty9 (.tmp rfl)) ?_
                    refine WL.op rfl (Op1.lenS Try.underlying9 (.tmp rfl)) ?_
                    refine WL.op rfl (Op1.gtI (.tmp rfl) (.int (inR64.2 (by omega)))) ?_
                    refine WL.nil ?_
                    refine WN.seq ?_
                    refine W.cond (.tmp rfl) (fun hc56 => ?_) (fun hc56 => ?_)
                    · have hp57 := of_decide_eq_true hc56
                      rw [if_pos hp57] at hm
                      refine W.seq ?_
                      refine W.region ?_
                      refine WL.op rfl (Op1.assign .bool) ?_
                      refine WL.nil ?_
                      refine WN.seq ?_
                      have hr58 := Option.some.inj hm
                      clear hm
                      subst hr58
                      have hm := hk51
                      try dsimp only at hm
                      have hr := Option.some.inj hm
                      clear hm
                      subst hr
                      exact W.ret1 () rfl (.tmp rfl) trivial
                    · have hp57 := of_decide_eq_false hc56
                      rw [if_neg hp57] at hm
                      refine W.skip ?_
                      refine WN.block ?_
                      refine WN.seq ?_
                      refine W.region ?_
                      refine WL.op rfl (Op1.move (.tmp rfl)) ?_
                      refine WL.lenL (s := 97) (.tmp rfl) fun hl59 => ?_
                      refine WL.op rfl (Op1.addI1 (.tmp rfl) (.int (inR64.2 (by omega))) hp54 hl59) ?_
                      refine WL.op rfl (Op1.assign (.tmp rfl)) ?_
                      refine WL.nil ?_
                      exact WN.again n52 (i2 + 1) (Nat.lt_succ_self n52) hm ⟨Ent.q rfl, Ent.q rfl, trivial⟩ trivial
                  · have hp54 := of_decide_eq_false hc53
                    rw [if_neg hp54] at hm
                    refine W.exit rfl ?_
                    have hr60 := Option.some.inj hm
                    clear hm
                    subst hr60
                    have hm := hk51
                    try dsimp only at hm
                    refine WN.seq ?_
                    refine W.seq ?_
                    refine W.seq ?_
                    refine W.region ?_
                    refine WL.op rfl (Op1.assign (.int (inR64.2 (by omega)))) ?_
                    refine WL.nil ?_
                    refine WN.seq ?_
                    refine W.block ?_
                    obtain ⟨s61, hs62, hk63⟩ := bind_some hm
                    clear hm
                    refine W.loop (fun m (s : Int) => M.r17_Few_loop4 x m s = some s61) (fun s => [(6, ((tI .i64).is s)), (1, (tapi_Item.ptr x))]) (fun s => []) _ (0 : Int) hs62 ⟨Ent.q rfl, Ent.q rfl, trivial⟩ trivial ?_
                    rintro n64 i3 hm
                    try dsimp only at hm
                    change W _ _ _ _ _ _ _ [(6, ((tI .i64).is i3)), (1, (tapi_Item.ptr x))] []
                    cases n64 with
                    | zero => rw [M.r17_Few_loop4.eq_1] at hm; cases hm
                    | succ n64 =>
                      rw [M.r17_Few_loop4.eq_2] at hm
                      refine W.seq ?_
                      refine W.seq ?_
                      refine W.region ?_
                      refine WL.op rfl (Op1.move (.tmp rfl)) ?_
                      refine WL.op rfl (Op1.fieldAddr Try.underlying37 rfl (fun w => ⟨0, Try.sizeOf28 w⟩) fapi_Item_2 (.tmp rfl)) ?_
                      refine WL.op rfl (Op1.load ty28 (.tmp rfl)) ?_
                      refine WL.op rfl (Op1.lenL Try.underlying28 (.tmp rfl)) ?_
                      refine WL.op rfl (Op1.ltI (.tmp rfl) (.tmp rfl)) ?_
                      refine WL.nil ?_
                      refine WN.seq ?_
                      refine W.cond (.tmp rfl) (fun hc65 => ?_) (fun hc65 => ?_)
                      · have hp66 := of_decide_eq_true hc65
                        rw [if_pos hp66] at hm
                        refine W.skip ?_
                        refine WN.seq ?_
                        refine W.seq ?_
                        refine W.block ?_
                        refine W.seq ?_
                        refine W.region ?_
                        refine WL.op rfl (Op1.fieldAddr Try.underlying37 rfl (fun w => ⟨0, Try.sizeOf28 w⟩) fapi_Item_2 (.tmp rfl)) ?_
                        refine WL.op rfl (Op1.load ty28 (.tmp rfl)) ?_
                        refine WL.op rfl (Op1.move (.tmp rfl)) ?_
                        obtain ⟨v4, hv67, hm⟩ := bind_some hm
                        refine WL.op rfl (Op1.idx hv67 Try.underlying28 Try.sizeOf63 (.tmp rfl) (.tmp rfl)) ?_
                        refine WL.op rfl (Op1.fieldAddr Try.underlying63 rfl (fun w => ⟨0, Try.sizeOf9 w⟩) fapi_Step_1 (.tmp rfl)) ?_
                        refine WL.op rfl (Op1.load ty9 (.tmp rfl)) ?_
                        refine WL.op rfl (Op1.lenS Try.underlying9 (.tmp rfl)) ?_
                        refine WL.op rfl (Op1.gtI (.tmp rfl) (.int (inR64.2 (by omega)))) ?_
                        refine WL.nil ?_
                        refine WN.seq ?_
                        refine W.cond (.tmp rfl) (fun hc68 => ?_) (fun hc68 => ?_)
                        · have hp69 := of_decide_eq_true hc68
                          rw [if_pos hp69] at hm
                          refine W.seq ?_
                          refine W.region ?_
                          refine WL.op rfl (Op1.assign .bool) ?_
                          refine WL.nil ?_
                          refine WN.seq ?_
                          have hr70 := Option.some.inj hm
                          clear hm
                          subst hr70
                          have hm := hk63
                          try dsimp only at hm
                          have hr := Option.some.inj hm
                          clear hm
                          subst hr
                          exact W.ret1 () rfl (.tmp rfl) trivial
                        · have hp69 := of_decide_eq_false hc68
                          rw [if_neg hp69] at hm
                          refine W.skip ?_
                          refine WN.block ?_
                          refine WN.seq ?_
                          refine W.region ?_
                          refine WL.op rfl (Op1.move (.tmp rfl)) ?_
                          refine WL.lenL (s := 112) (.tmp rfl) fun hl71 => ?_
                          refine WL.op rfl (Op1.addI1 (.tmp rfl) (.int (inR64.2 (by omega))) hp66 hl71) ?_
                          refine WL.op rfl (Op1.assign (.tmp rfl)) ?_
                          refine WL.nil ?_
                          exact WN.again n64 (i3 + 1) (Nat.lt_succ_self n64) hm ⟨Ent.q rfl, Ent.q rfl, trivial⟩ trivial
                      · have hp66 := of_decide_eq_false hc65
                        rw [if_neg hp66] at hm
                        refine W.exit rfl ?_
                        have hr72 := Option.some.inj hm
                        clear hm
                        subst hr72
                        have hm := hk63
                        try dsimp only at hm
                        refine WN.seq ?_
                        refine W.seq ?_
                        refine W.seq ?_
                        refine W.region ?_
                        refine WL.op rfl (Op1.assign (.int (inR64.2 (by omega)))) ?_
                        refine WL.nil ?_
                        refine WN.seq ?_
                        refine W.block ?_
                        obtain ⟨s73, hs74, hk75⟩ := bind_some hm
                        clear hm
                        refine W.loop (fun m (s : Int) => M.r17_Few_loop5 x (M.r17_Few n) m s = some s73) (fun s => [(7, ((tI .i64).is s)), (1, (tapi_Item.ptr x))]) (fun s => []) _ (0 : Int) hs74 ⟨Ent.q rfl, Ent.q rfl, trivial⟩ trivial ?_
                        rintro n76 i4 hm
                        try dsimp only at hm
                        change W _ _ _ _ _ _ _ [(7, ((tI .i64).is i4)), (1, (tapi_Item.ptr x))] []
                        cases n76 with
                        | zero => rw [M.r17_Few_loop5.eq_1] at hm; cases hm
                        | succ n76 =>
                          rw [M.r17_Few_loop5.eq_2] at hm
                          refine W.seq ?_
                          refine W.seq ?_
                          refine W.region ?_
                          refine WL.op rfl (Op1.move (.tmp rfl)) ?_
                          refine WL.op rfl (Op1.fieldAddr Try.underlying37 rfl (fun w => ⟨0, Try.sizeOf35 w⟩) fapi_Item_15 (.tmp rfl)) ?_
                          refine WL.op rfl (Op1.load ty35 (.tmp rfl)) ?_
                          refine WL.op rfl (Op1.lenL Try.underlying35 (.tmp rfl)) ?_
                          refine WL.op rfl (Op1.ltI (.tmp rfl) (.tmp rfl)) ?_
                          refine WL.nil ?_
                          refine WN.seq ?_
                          refine W.cond (.tmp rfl) (fun hc77 => ?_) (fun hc77 => ?_)
                          · have hp78 := of_decide_eq_true hc77
                            rw [if_pos hp78] at hm
                            refine W.skip ?_
                            refine WN.seq ?_
                            refine W.seq ?_
                            refine W.block ?_
                            refine W.seq ?_
                            refine W.region ?_
                            refine WL.op rfl (Op1.fieldAddr Try.underlying37 rfl (fun w => ⟨0, Try.sizeOf35 w⟩) fapi_Item_15 (.tmp rfl)) ?_
                            refine WL.op rfl (Op1.load ty35 (.tmp rfl)) ?_
                            refine WL.op rfl (Op1.move (.tmp rfl)) ?_
                            obtain ⟨v5, hv79, hm⟩ := bind_some hm
                            refine WL.op rfl (Op1.idx hv79 Try.underlying35 Try.sizeOf37 (.tmp rfl) (.tmp rfl)) ?_
                            refine WL.op rfl (Op1.fieldAddr Try.underlying37 rfl (fun w => ⟨0, Try.sizeOf35 w⟩) fapi_Item_15 (.tmp rfl)) ?_
                            refine WL.op rfl (Op1.load ty35 (.tmp rfl)) ?_
                            refine WL.op rfl (Op1.lenL Try.underlying35 (.tmp rfl)) ?_
                            refine WL.op rfl (Op1.gtI (.tmp rfl) (.int (inR64.2 (by omega)))) ?_
                            refine WL.op rfl (Op1.move (.tmp rfl)) ?_
                            rcases bcases (decide ((0 : Int) < (v5.By.length : Int))) with hb80 | hb80
                            · have hp81 := of_decide_eq_true hb80
                              rw [if_pos hp81] at hm
                              refine WL.run rfl rfl rfl rfl hb80 rfl rfl (Op1.fieldAddr Try.underlying37 rfl (fun w => ⟨0, Try.sizeOf35 w⟩) fapi_Item_15 (.tmp rfl)) ?_
                              refine WL.run rfl rfl rfl rfl hb80 rfl rfl (Op1.load ty35 (.tmp rfl)) ?_
                              refine WL.run rfl rfl rfl rfl hb80 rfl rfl (Op1.move (.tmp rfl)) ?_
                              obtain ⟨v6, hv82, hm⟩ := bind_some hm
                              refine WL.run rfl rfl rfl rfl hb80 rfl rfl (Op1.idx hv82 Try.underlying35 Try.sizeOf37 (.tmp rfl) (.tmp rfl)) ?_
                              refine WL.run rfl rfl rfl rfl hb80 rfl rfl (Op1.fieldAddr Try.underlying37 rfl (fun w => ⟨0, Try.sizeOf35 w⟩) fapi_Item_15 (.tmp rfl)) ?_
                              refine WL.run rfl rfl rfl rfl hb80 rfl rfl (Op1.load ty35 (.tmp rfl)) ?_
                              obtain ⟨v7, hv83, hm⟩ := bind_some hm
                              refine WL.run rfl rfl rfl rfl hb80 rfl rfl (Op1.idx hv83 Try.underlying35 Try.sizeOf37 (.tmp rfl) (.int (inR64.2 (by omega)))) ?_
                              refine WL.run rfl rfl rfl rfl hb80 rfl rfl (Op1.fieldAddr Try.underlying37 rfl (fun w => ⟨0, Try.sizeOf35 w⟩) fapi_Item_15 (.tmp rfl)) ?_
                              refine WL.run rfl rfl rfl rfl hb80 rfl rfl (Op1.load ty35 (.tmp rfl)) ?_
                              refine WL.run rfl rfl rfl rfl hb80 rfl rfl (Op1.lenL Try.underlying35 (.tmp rfl)) ?_
                              refine WL.run rfl rfl rfl rfl hb80 rfl rfl (Op1.gtI (.tmp rfl) (.int (inR64.2 (by omega)))) ?_
                              refine WL.op rfl (Op1.pickT (.tmp rfl) hb80 (.tmp rfl)) ?_
                              refine WL.op rfl (Op1.move (.tmp rfl)) ?_
                              rcases bcases (decide ((0 : Int) < (v7.By.length : Int))) with hb84 | hb84
                              · have hp85 := of_decide_eq_true hb84
                                rw [if_pos hp85] at hm
                                refine WL.pass rfl rfl rfl rfl hb84 rfl rfl ?_
                                refine WL.pass rfl rfl rfl rfl hb84 rfl rfl ?_
                                refine WL.pass rfl rfl rfl rfl hb84 rfl rfl ?_
                                refine WL.pass rfl rfl rfl rfl hb84 rfl rfl ?_
                                refine WL.pass rfl rfl rfl rfl hb84 rfl rfl ?_
                                refine WL.pass rfl rfl rfl rfl hb84 rfl rfl ?_
                                refine WL.pass rfl rfl rfl rfl hb84 rfl rfl ?_
                                refine WL.op rfl (Op1.pickT (.tmp rfl) hb84 .bool) ?_
                                refine WL.nil ?_
                                refine WN.seq ?_
                                refine W.condT (.tmp rfl) ?_
                                refine W.seq ?_
                                refine W.region ?_
                                refine WL.op rfl (Op1.assign .bool) ?_
                                refine WL.nil ?_
                                refine WN.seq ?_
                                have hr86 := Option.some.inj hm
                                clear hm
                                subst hr86
                                have hm := hk75
                                try dsimp only at hm
                                have hr := Option.some.inj hm
                                clear hm
                                subst hr
                                exact W.ret1 () rfl (.tmp rfl) trivial
                              · have hp85 := of_decide_eq_false hb84
                                rw [if_neg hp85] at hm
                                refine WL.run rfl rfl rfl rfl hb84 rfl rfl (Op1.fieldAddr Try.underlying37 rfl (fun w => ⟨0, Try.sizeOf35 w⟩) fapi_Item_15 (.tmp rfl)) ?_
                                refine WL.run rfl rfl rfl rfl hb84 rfl rfl (Op1.load ty35 (.tmp rfl)) ?_
                                refine WL.run rfl rfl rfl rfl hb84 rfl rfl (Op1.move (.tmp rfl)) ?_
                                obtain ⟨v8, hv87, hm⟩ := bind_some hm
                                refine WL.run rfl rfl rfl rfl hb84 rfl rfl (Op1.idx hv87 Try.underlying35 Try.sizeOf37 (.tmp rfl) (.tmp rfl)) ?_
                                refine WL.run rfl rfl rfl rfl hb84 rfl rfl (Op1.load ty37 (.tmp rfl)) ?_
                                obtain ⟨few1, hv88, hm⟩ := bind_some hm
                                refine WL.run rfl rfl rfl rfl hb84 rfl rfl (Op1.call Try.call10 (ih _ _ hv88) ⟨(.tmp rfl), trivial⟩) ?_
                                refine WL.run rfl rfl rfl rfl hb84 rfl rfl (Op1.notB (.tmp rfl)) ?_
                                refine WL.op rfl (Op1.pickF (.tmp rfl) hb84 (.tmp rfl)) ?_
                                refine WL.nil ?_
                                refine WN.seq ?_
                                refine W.cond (.tmp rfl) (fun hc89 => ?_) (fun hc89 => ?_)
                                · have hp90 := not_pos hc89
                                  rw [if_pos hp90] at hm
                                  refine W.seq ?_
                                  refine W.region ?_
                                  refine WL.op rfl (Op1.assign .bool) ?_
                                  refine WL.nil ?_
                                  refine WN.seq ?_
                                  have hr91 := Option.some.inj hm
                                  clear hm
                                  subst hr91
                                  have hm := hk75
                                  try dsimp only at hm
                                  have hr := Option.some.inj hm
                                  clear hm
                                  subst hr
                                  exact W.ret1 () rfl (.tmp rfl) trivial
                                · have hp90 := not_neg hc89
                                  rw [if_neg hp90] at hm
                                  refine W.skip ?_
                                  refine WN.block ?_
                                  refine WN.seq ?_
                                  refine W.region ?_
                                  refine WL.op rfl (Op1.move (.tmp rfl)) ?_
                                  refine WL.lenL (s := 127) (.tmp rfl) fun hl92 => ?_
                                  refine WL.op rfl (Op1.addI1 (.tmp rfl) (.int (inR64.2 (by omega))) hp78 hl92) ?_
                                  refine WL.op rfl (Op1.assign (.tmp rfl)) ?_
                                  refine WL.nil ?_
                                  exact WN.again n76 (i4 + 1) (Nat.lt_succ_self n76) hm ⟨Ent.q rfl, Ent.q rfl, trivial⟩ trivial
                            · have hp81 := of_decide_eq_false hb80
                              rw [if_neg hp81] at hm
                              refine WL.pass rfl rfl rfl rfl hb80 rfl rfl ?_
                              refine WL.pass rfl rfl rfl rfl hb80 rfl rfl ?_
                              refine WL.pass rfl rfl rfl rfl hb80 rfl rfl ?_
                              refine WL.pass rfl rfl rfl rfl hb80 rfl rfl ?_
                              refine WL.pass rfl rfl rfl rfl hb80 rfl rfl ?_
                              refine WL.pass rfl rfl rfl rfl hb80 rfl rfl ?_
                              refine WL.pass rfl rfl rfl rfl hb80 rfl rfl ?_
                              refine WL.pass rfl rfl rfl rfl hb80 rfl rfl ?_
                              refine WL.pass rfl rfl rfl rfl hb80 rfl rfl ?_
                              refine WL.pass rfl rfl rfl rfl hb80 rfl rfl ?_
                              refine WL.pass rfl rfl rfl rfl hb80 rfl rfl ?_
                              refine WL.op rfl (Op1.pickF (.tmp rfl) hb80 .bool) ?_
                              refine WL.op rfl (Op1.move (.tmp rfl)) ?_
                              refine WL.run rfl rfl rfl rfl rfl rfl rfl (Op1.fieldAddr Try.underlying37 rfl (fun w => ⟨0, Try.sizeOf35 w⟩) fapi_Item_15 (.tmp rfl)) ?_
                              refine WL.run rfl rfl rfl rfl rfl rfl rfl (Op1.load ty35 (.tmp rfl)) ?_
                              refine WL.run rfl rfl rfl rfl rfl rfl rfl (Op1.move (.tmp rfl)) ?_
                              obtain ⟨v9, hv93, hm⟩ := bind_some hm
                              refine WL.run rfl rfl rfl rfl rfl rfl rfl (Op1.idx hv93 Try.underlying35 Try.sizeOf37 (.tmp rfl) (.tmp rfl)) ?_
                              refine WL.run rfl rfl rfl rfl rfl rfl rfl (Op1.load ty37 (.tmp rfl)) ?_
                              obtain ⟨few2, hv94, hm⟩ := bind_some hm
                              refine WL.run rfl rfl rfl rfl rfl rfl rfl (Op1.call Try.call10 (ih _ _ hv94) ⟨(.tmp rfl), trivial⟩) ?_
                              refine WL.run rfl rfl rfl rfl rfl rfl rfl (Op1.notB (.tmp rfl)) ?_
                              refine WL.op rfl (Op1.pickF (.tmp rfl) rfl (.tmp rfl)) ?_
                              refine WL.nil ?_
                              refine WN.seq ?_
                              refine W.cond (.tmp rfl) (fun hc95 => ?_) (fun hc95 => ?_)
                              · have hp96 := not_pos hc95
                                rw [if_pos hp96] at hm
                                refine W.seq ?_
                                refine W.region ?_
                                refine WL.op rfl (Op1.assign .bool) ?_
                                refine WL.nil ?_
                                refine WN.seq ?_
                                have hr97 := Option.some.inj hm
                                clear hm
                                subst hr97
                                have hm := hk75
                                try dsimp only at hm
                                have hr := Option.some.inj hm
                                clear hm
                                subst hr
                                exact W.ret1 () rfl (.tmp rfl) trivial
                              · have hp96 := not_neg hc95
                                rw [if_neg hp96] at hm
                                refine W.skip ?_
                                refine WN.block ?_
                                refine WN.seq ?_
                                refine W.region ?_
                                refine WL.op rfl (Op1.move (.tmp rfl)) ?_
                                refine WL.lenL (s := 127) (.tmp rfl) fun hl98 => ?_
                                refine WL.op rfl (Op1.addI1 (.tmp rfl) (.int (inR64.2 (by omega))) hp78 hl98) ?_
                                refine WL.op rfl (Op1.assign (.tmp rfl)) ?_
                                refine WL.nil ?_
                                exact WN.again n76 (i4 + 1) (Nat.lt_succ_self n76) hm ⟨Ent.q rfl, Ent.q rfl, trivial⟩ trivial
                          · have hp78 := of_decide_eq_false hc77
                            rw [if_neg hp78] at hm
                            refine W.exit rfl ?_
                            have hr99 := Option.some.inj hm
                            clear hm
                            subst hr99
                            have hm := hk75
                            try dsimp only at hm
                            refine WN.seq ?_
                            refine W.seq ?_
                            refine W.region ?_
                            refine WL.op rfl (Op1.assign .bool) ?_
                            refine WL.nil ?_
                            refine WN.seq ?_
                            have hr := Option.some.inj hm
                            clear hm
                            subst hr
                            exact W.ret1 () rfl (.tmp rfl) trivial
    · have hm := hs2
      clear hs2
      refine W.region ?_
      refine WL.op rfl (Op1.fieldAddr Try.underlying37 rfl (fun w => ⟨0, Try.sizeOf28 w⟩) fapi_Item_1 (.tmp rfl)) ?_
      refine WL.op rfl (Op1.load ty28 (.tmp rfl)) ?_
      refine WL.op rfl (Op1.lenL Try.underlying28 (.tmp rfl)) ?_
      refine WL.op rfl (Op1.gtI (.tmp rfl) (.int (inR64.2 (by omega)))) ?_
      refine WL.op rfl (Op1.move (.tmp rfl)) ?_
      rcases bcases (decide ((12 : Int) < (x.At.length : Int))) with hb4 | hb4
      · have hp5 := of_decide_eq_true hb4
        rw [if_pos hp5] at hm
        refine WL.pass rfl rfl rfl rfl hb4 rfl rfl ?_
        refine WL.pass rfl rfl rfl rfl hb4 rfl rfl ?_
        refine WL.pass rfl rfl rfl rfl hb4 rfl rfl ?_
        refine WL.pass rfl rfl rfl rfl hb4 rfl rfl ?_
        refine WL.op rfl (Op1.pickT (.tmp rfl) hb4 .bool) ?_
        refine WL.op rfl (Op1.move (.tmp rfl)) ?_
        refine WL.pass rfl rfl rfl rfl rfl rfl rfl ?_
        refine WL.pass rfl rfl rfl rfl rfl rfl rfl ?_
        refine WL.pass rfl rfl rfl rfl rfl rfl rfl ?_
        refine WL.pass rfl rfl rfl rfl rfl rfl rfl ?_
        refine WL.op rfl (Op1.pickT (.tmp rfl) rfl .bool) ?_
        refine WL.op rfl (Op1.move (.tmp rfl)) ?_
        refine WL.pass rfl rfl rfl rfl rfl rfl rfl ?_
        refine WL.pass rfl rfl rfl rfl rfl rfl rfl ?_
        refine WL.pass rfl rfl rfl rfl rfl rfl rfl ?_
        refine WL.pass rfl rfl rfl rfl rfl rfl rfl ?_
        refine WL.op rfl (Op1.pickT (.tmp rfl) rfl .bool) ?_
        refine WL.op rfl (Op1.move (.tmp rfl)) ?_
        refine WL.pass rfl rfl rfl rfl rfl rfl rfl ?_
        refine WL.pass rfl rfl rfl rfl rfl rfl rfl ?_
        refine WL.pass rfl rfl rfl rfl rfl rfl rfl ?_
        refine WL.pass rfl rfl rfl rfl rfl rfl rfl ?_
        refine WL.op rfl (Op1.pickT (.tmp rfl) rfl .bool) ?_
        refine WL.op rfl (Op1.move (.tmp rfl)) ?_
        refine WL.pass rfl rfl rfl rfl rfl rfl rfl ?_
        refine WL.pass rfl rfl rfl rfl rfl rfl rfl ?_
        refine WL.pass rfl rfl rfl rfl rfl rfl rfl ?_
        refine WL.pass rfl rfl rfl rfl rfl rfl rfl ?_
        refine WL.op rfl (Op1.pickT (.tmp rfl) rfl .bool) ?_
        refine WL.op rfl (Op1.move (.tmp rfl)) ?_
        refine WL.pass rfl rfl rfl rfl rfl rfl rfl ?_
        refine WL.pass rfl rfl rfl rfl rfl rfl rfl ?_
        refine WL.pass rfl rfl rfl rfl rfl rfl rfl ?_
        refine WL.pass rfl rfl rfl rfl rfl rfl rfl ?_
        refine WL.pass rfl rfl rfl rfl rfl rfl rfl ?_
        refine WL.op rfl (Op1.pickT (.tmp rfl) rfl .bool) ?_
        refine WL.op rfl (Op1.move (.tmp rfl)) ?_
        refine WL.pass rfl rfl rfl rfl rfl rfl rfl ?_
        refine WL.pass rfl rfl rfl rfl rfl rfl rfl ?_
        refine WL.pass rfl rfl rfl rfl rfl rfl rfl ?_
        refine WL.pass rfl rfl rfl rfl rfl rfl rfl ?_
        refine WL.op rfl (Op1.pickT (.tmp rfl) rfl .bool) ?_
        refine WL.op rfl (Op1.move (.tmp rfl)) ?_
        refine WL.pass rfl rfl rfl rfl rfl rfl rfl ?_
        refine WL.pass rfl rfl rfl rfl rfl rfl rfl ?_
        refine WL.pass rfl rfl rfl rfl rfl rfl rfl ?_
        refine WL.pass rfl rfl rfl rfl rfl rfl rfl ?_
        refine WL.op rfl (Op1.pickT (.tmp rfl) rfl .bool) ?_
        refine WL.op rfl (Op1.move (.tmp rfl)) ?_
        refine WL.pass rfl rfl rfl rfl rfl rfl rfl ?_
        refine WL.pass rfl rfl rfl rfl rfl rfl rfl ?_
        refine WL.pass rfl rfl rfl rfl rfl rfl rfl ?_
        refine WL.pass rfl rfl rfl rfl rfl rfl rfl ?_
        refine WL.op rfl (Op1.pickT (.tmp rfl) rfl .bool) ?_
        refine WL.nil ?_
        exact WN.meet true (Option.some.inj hm) ⟨Ent.q rfl, Ent.q rfl, trivial⟩ trivial
      · have hp5 := of_decide_eq_false hb4
        rw [if_neg hp5] at hm
        refine WL.run rfl rfl rfl rfl hb4 rfl rfl (Op1.fieldAddr Try.underlying37 rfl (fun w => ⟨0, Try.sizeOf28 w⟩) fapi_Item_2 (.tmp rfl)) ?_
        refine WL.run rfl rfl rfl rfl hb4 rfl rfl (Op1.load ty28 (.tmp rfl)) ?_
        refine WL.run rfl rfl rfl rfl hb4 rfl rfl (Op1.lenL Try.underlying28 (.tmp rfl)) ?_
        refine WL.run rfl rfl rfl rfl hb4 rfl rfl (Op1.gtI (.tmp rfl) (.int (inR64.2 (by omega)))) ?_
        refine WL.op rfl (Op1.pickF (.tmp rfl) hb4 (.tmp rfl)) ?_
        refine WL.op rfl (Op1.move (.tmp rfl)) ?_
        rcases bcases (decide ((12 : Int) < (x.To.length : Int))) with hb6 | hb6
        · have hp7 := of_decide_eq_true hb6
          rw [if_pos hp7] at hm
          refine WL.pass rfl rfl rfl rfl hb6 rfl rfl ?_
          refine WL.pass rfl rfl rfl rfl hb6 rfl rfl ?_
          refine WL.pass rfl rfl rfl rfl hb6 rfl rfl ?_
          refine WL.pass rfl rfl rfl rfl hb6 rfl rfl ?_
          refine WL.op rfl (Op1.pickT (.tmp rfl) hb6 .bool) ?_
          refine WL.op rfl (Op1.move (.tmp rfl)) ?_
          refine WL.pass rfl rfl rfl rfl rfl rfl rfl ?_
          refine WL.pass rfl rfl rfl rfl rfl rfl rfl ?_
          refine WL.pass rfl rfl rfl rfl rfl rfl rfl ?_
          refine WL.pass rfl rfl rfl rfl rfl rfl rfl ?_
          refine WL.op rfl (Op1.pickT (.tmp rfl) rfl .bool) ?_
          refine WL.op rfl (Op1.move (.tmp rfl)) ?_
          refine WL.pass rfl rfl rfl rfl rfl rfl rfl ?_
          refine WL.pass rfl rfl rfl rfl rfl rfl rfl ?_
          refine WL.pass rfl rfl rfl rfl rfl rfl rfl ?_
          refine WL.pass rfl rfl rfl rfl rfl rfl rfl ?_
          refine WL.op rfl (Op1.pickT (.tmp rfl) rfl .bool) ?_
          refine WL.op rfl (Op1.move (.tmp rfl)) ?_
          refine WL.pass rfl rfl rfl rfl rfl rfl rfl ?_
          refine WL.pass rfl rfl rfl rfl rfl rfl rfl ?_
          refine WL.pass rfl rfl rfl rfl rfl rfl rfl ?_
          refine WL.pass rfl rfl rfl rfl rfl rfl rfl ?_
          refine WL.op rfl (Op1.pickT (.tmp rfl) rfl .bool) ?_
          refine WL.op rfl (Op1.move (.tmp rfl)) ?_
          refine WL.pass rfl rfl rfl rfl rfl rfl rfl ?_
          refine WL.pass rfl rfl rfl rfl rfl rfl rfl ?_
          refine WL.pass rfl rfl rfl rfl rfl rfl rfl ?_
          refine WL.pass rfl rfl rfl rfl rfl rfl rfl ?_
          refine WL.pass rfl rfl rfl rfl rfl rfl rfl ?_
          refine WL.op rfl (Op1.pickT (.tmp rfl) rfl .bool) ?_
          refine WL.op rfl (Op1.move (.tmp rfl)) ?_
          refine WL.pass rfl rfl rfl rfl rfl rfl rfl ?_
          refine WL.pass rfl rfl rfl rfl rfl rfl rfl ?_
          refine WL.pass rfl rfl rfl rfl rfl rfl rfl ?_
          refine WL.pass rfl rfl rfl rfl rfl rfl rfl ?_
          refine WL.op rfl (Op1.pickT (.tmp rfl) rfl .bool) ?_
          refine WL.op rfl (Op1.move (.tmp rfl)) ?_
          refine WL.pass rfl rfl rfl rfl rfl rfl rfl ?_
          refine WL.pass rfl rfl rfl rfl rfl rfl rfl ?_
          refine WL.pass rfl rfl rfl rfl rfl rfl rfl ?_
          refine WL.pass rfl rfl rfl rfl rfl rfl rfl ?_
          refine WL.op rfl (Op1.pickT (.tmp rfl) rfl .bool) ?_
          refine WL.op rfl (Op1.move (.tmp rfl)) ?_
          refine WL.pass rfl rfl rfl rfl rfl rfl rfl ?_
          refine WL.pass rfl rfl rfl rfl rfl rfl rfl ?_
          refine WL.pass rfl rfl rfl rfl rfl rfl rfl ?_
          refine WL.pass rfl rfl rfl rfl rfl rfl rfl ?_
          refine WL.op rfl (Op1.pickT (.tmp rfl) rfl .bool) ?_
          refine WL.nil ?_
          exact WN.meet true (Option.some.inj hm) ⟨Ent.q rfl, Ent.q rfl, trivial⟩ trivial
        · have hp7 := of_decide_eq_false hb6
          rw [if_neg hp7] at hm
          refine WL.run rfl rfl rfl rfl hb6 rfl rfl (Op1.fieldAddr Try.underlying37 rfl (fun w => ⟨0, Try.sizeOf32 w⟩) fapi_Item_6 (.tmp rfl)) ?_
          refine WL.run rfl rfl rfl rfl hb6 rfl rfl (Op1.load ty32 (.tmp rfl)) ?_
          refine WL.run rfl rfl rfl rfl hb6 rfl rfl (Op1.lenL Try.underlying32 (.tmp rfl)) ?_
          refine WL.run rfl rfl rfl rfl hb6 rfl rfl (Op1.gtI (.tmp rfl) (.int (inR64.2 (by omega)))) ?_
          refine WL.op rfl (Op1.pickF (.tmp rfl) hb6 (.tmp rfl)) ?_
          refine WL.op rfl (Op1.move (.tmp rfl)) ?_
          rcases bcases (decide ((300 : Int) < (x.Old.length : Int))) with hb8 | hb8
          · have hp9 := of_decide_eq_true hb8
            rw [if_pos hp9] at hm
            refine WL.pass rfl rfl rfl rfl hb8 rfl rfl ?_
            refine WL.pass rfl rfl rfl rfl hb8 rfl rfl ?_
            refine WL.pass rfl rfl rfl rfl hb8 rfl rfl ?_
            refine WL.pass rfl rfl rfl rfl hb8 rfl rfl ?_
            refine WL.op rfl (Op1.pickT (.tmp rfl) hb8 .bool) ?_
            refine WL.op rfl (Op1.move (.tmp rfl)) ?_
            refine WL.pass rfl rfl rfl rfl rfl rfl rfl ?_
            refine WL.pass rfl rfl rfl rfl rfl rfl rfl ?_
            refine WL.pass rfl rfl rfl rfl rfl rfl rfl ?_
            refine WL.pass rfl rfl rfl rfl rfl rfl rfl ?_
            refine WL.op rfl (Op1.pickT (.tmp rfl) rfl .bool) ?_
            refine WL.op rfl (Op1.move (.tmp rfl)) ?_
            refine WL.pass rfl rfl rfl rfl rfl rfl rfl ?_
            refine WL.pass rfl rfl rfl rfl rfl rfl rfl ?_
            refine WL.pass rfl rfl rfl rfl rfl rfl rfl ?_
            refine WL.pass rfl rfl rfl rfl rfl rfl rfl ?_
            refine WL.op rfl (Op1.pickT (.tmp rfl) rfl .bool) ?_
            refine WL.op rfl (Op1.move (.tmp rfl)) ?_
            refine WL.pass rfl rfl rfl rfl rfl rfl rfl ?_
            refine WL.pass rfl rfl rfl rfl rfl rfl rfl ?_
            refine WL.pass rfl rfl rfl rfl rfl rfl rfl ?_
            refine WL.pass rfl rfl rfl rfl rfl rfl rfl ?_
            refine WL.pass rfl rfl rfl rfl rfl rfl rfl ?_
            refine WL.op rfl (Op1.pickT (.tmp rfl) rfl .bool) ?_
            refine WL.op rfl (Op1.move (.tmp rfl)) ?_
            refine WL.pass rfl rfl rfl rfl rfl rfl rfl ?_
            refine WL.pass rfl rfl rfl rfl rfl rfl rfl ?_
            refine WL.pass rfl rfl rfl rfl rfl rfl rfl ?_
            refine WL.pass rfl rfl rfl rfl rfl rfl rfl ?_
            refine WL.op rfl (Op1.pickT (.tmp rfl) rfl .bool) ?_
            refine WL.op rfl (Op1.move (.tmp rfl)) ?_
            refine WL.pass rfl rfl rfl rfl rfl rfl rfl ?_
            refine WL.pass rfl rfl rfl rfl rfl rfl rfl ?_
            refine WL.pass rfl rfl rfl rfl rfl rfl rfl ?_
            refine WL.pass rfl rfl rfl rfl rfl rfl rfl ?_
            refine WL.op rfl (Op1.pickT (.tmp rfl) rfl .bool) ?_
            refine WL.op rfl (Op1.move (.tmp rfl)) ?_
            refine WL.pass rfl rfl rfl rfl rfl rfl rfl ?_
            refine WL.pass rfl rfl rfl rfl rfl rfl rfl ?_
            refine WL.pass rfl rfl rfl rfl rfl rfl rfl ?_
            refine WL.pass rfl rfl rfl rfl rfl rfl rfl ?_
            refine WL.op rfl (Op1.pickT (.tmp rfl) rfl .bool) ?_
            refine WL.nil ?_
            exact WN.meet true (Option.some.inj hm) ⟨Ent.q rfl, Ent.q rfl, trivial⟩ trivial
          · have hp9 := of_decide_eq_false hb8
            rw [if_neg hp9] at hm
            refine WL.run rfl rfl rfl rfl hb8 rfl rfl (Op1.fieldAddr Try.underlying37 rfl (fun w => ⟨0, Try.sizeOf32 w⟩) fapi_Item_7 (.tmp rfl)) ?_
            refine WL.run rfl rfl rfl rfl hb8 rfl rfl (Op1.load ty32 (.tmp rfl)) ?_
            refine WL.run rfl rfl rfl rfl hb8 rfl rfl (Op1.lenL Try.underlying32 (.tmp rfl)) ?_
            refine WL.run rfl rfl rfl rfl hb8 rfl rfl (Op1.gtI (.tmp rfl) (.int (inR64.2 (by omega)))) ?_
            refine WL.op rfl (Op1.pickF (.tmp rfl) hb8 (.tmp rfl)) ?_
            refine WL.op rfl (Op1.move (.tmp rfl)) ?_
            rcases bcases (decide ((300 : Int) < (x.New.length : Int))) with hb10 | hb10
            · have hp11 := of_decide_eq_true hb10
              rw [if_pos hp11] at hm
              refine WL.pass rfl rfl rfl rfl hb10 rfl rfl ?_
              refine WL.pass rfl rfl rfl rfl hb10 rfl rfl ?_
              refine WL.pass rfl rfl rfl rfl hb10 rfl rfl ?_
              refine WL.pass rfl rfl rfl rfl hb10 rfl rfl ?_
              refine WL.op rfl (Op1.pickT (.tmp rfl) hb10 .bool) ?_
              refine WL.op rfl (Op1.move (.tmp rfl)) ?_
              refine WL.pass rfl rfl rfl rfl rfl rfl rfl ?_
              refine WL.pass rfl rfl rfl rfl rfl rfl rfl ?_
              refine WL.pass rfl rfl rfl rfl rfl rfl rfl ?_
              refine WL.pass rfl rfl rfl rfl rfl rfl rfl ?_
              refine WL.op rfl (Op1.pickT (.tmp rfl) rfl .bool) ?_
              refine WL.op rfl (Op1.move (.tmp rfl)) ?_
              refine WL.pass rfl rfl rfl rfl rfl rfl rfl ?_
              refine WL.pass rfl rfl rfl rfl rfl rfl rfl ?_
              refine WL.pass rfl rfl rfl rfl rfl rfl rfl ?_
              refine WL.pass rfl rfl rfl rfl rfl rfl rfl ?_
              refine WL.pass rfl rfl rfl rfl rfl rfl rfl ?_
              refine WL.op rfl (Op1.pickT (.tmp rfl) rfl .bool) ?_
              refine WL.op rfl (Op1.move (.tmp rfl)) ?_
              refine WL.pass rfl rfl rfl rfl rfl rfl rfl ?_
              refine WL.pass rfl rfl rfl rfl rfl rfl rfl ?_
              refine WL.pass rfl rfl rfl rfl rfl rfl rfl ?_
              refine WL.pass rfl rfl rfl rfl rfl rfl rfl ?_
              refine WL.op rfl (Op1.pickT (.tmp rfl) rfl .bool) ?_
              refine WL.op rfl (Op1.move (.tmp rfl)) ?_
              refine WL.pass rfl rfl rfl rfl rfl rfl rfl ?_
              refine WL.pass rfl rfl rfl rfl rfl rfl rfl ?_
              refine WL.pass rfl rfl rfl rfl rfl rfl rfl ?_
              refine WL.pass rfl rfl rfl rfl rfl rfl rfl ?_
              refine WL.op rfl (Op1.pickT (.tmp rfl) rfl .bool) ?_
              refine WL.op rfl (Op1.move (.tmp rfl)) ?_
              refine WL.pass rfl rfl rfl rfl rfl rfl rfl ?_
              refine WL.pass rfl rfl rfl rfl rfl rfl rfl ?_
              refine WL.pass rfl rfl rfl rfl rfl rfl rfl ?_
              refine WL.pass rfl rfl rfl rfl rfl rfl rfl ?_
              refine WL.op rfl (Op1.pickT (.tmp rfl) rfl .bool) ?_
              refine WL.nil ?_
              exact WN.meet true (Option.some.inj hm) ⟨Ent.q rfl, Ent.q rfl, trivial⟩ trivial
            · have hp11 := of_decide_eq_false hb10
              rw [if_neg hp11] at hm
              refine WL.run rfl rfl rfl rfl hb10 rfl rfl (Op1.fieldAddr Try.underlying37 rfl (fun w => ⟨0, Try.sizeOf9 w⟩) fapi_Item_8 (.tmp rfl)) ?_
              refine WL.run rfl rfl rfl rfl hb10 rfl rfl (Op1.load ty9 (.tmp rfl)) ?_
              refine WL.run rfl rfl rfl rfl hb10 rfl rfl (Op1.lenS Try.underlying9 (.tmp rfl)) ?_
              refine WL.run rfl rfl rfl rfl hb10 rfl rfl (Op1.gtI (.tmp rfl) (.int (inR64.2 (by omega)))) ?_
              refine WL.op rfl (Op1.pickF (.tmp rfl) hb10 (.tmp rfl)) ?_
              refine WL.op rfl (Op1.move (.tmp rfl)) ?_
              rcases bcases (decide ((100 : Int) < (x.Label.length : Int))) with hb12 | hb12
              · have hp13 := of_decide_eq_true hb12
                rw [if_pos hp13] at hm
                refine WL.pass rfl rfl rfl rfl hb12 rfl rfl ?_
                refine WL.pass rfl rfl rfl rfl hb12 rfl rfl ?_
                refine WL.pass rfl rfl rfl rfl hb12 rfl rfl ?_
                refine WL.pass rfl rfl rfl rfl hb12 rfl rfl ?_
                refine WL.op rfl (Op1.pickT (.tmp rfl) hb12 .bool) ?_
                refine WL.op rfl (Op1.move (.tmp rfl)) ?_
                refine WL.pass rfl rfl rfl rfl rfl rfl rfl ?_
                refine WL.pass rfl rfl rfl rfl rfl rfl rfl ?_
                refine WL.pass rfl rfl rfl rfl rfl rfl rfl ?_
                refine WL.pass rfl rfl rfl rfl rfl rfl rfl ?_
                refine WL.pass rfl rfl rfl rfl rfl rfl rfl ?_
                refine WL.op rfl (Op1.pickT (.tmp rfl) rfl .bool) ?_
                refine WL.op rfl (Op1.move (.tmp rfl)) ?_
                refine WL.pass rfl rfl rfl rfl rfl rfl rfl ?_
                refine WL.pass rfl rfl rfl rfl rfl rfl rfl ?_
                refine WL.pass rfl rfl rfl rfl rfl rfl rfl ?_
                refine WL.pass rfl rfl rfl rfl rfl rfl rfl ?_
                refine WL.op rfl (Op1.pickT (.tmp rfl) rfl .bool) ?_
                refine WL.op rfl (Op1.move (.tmp rfl)) ?_
                refine WL.pass rfl rfl rfl rfl rfl rfl rfl ?_
                refine WL.pass rfl rfl rfl rfl rfl rfl rfl ?_
                refine WL.pass rfl rfl rfl rfl rfl rfl rfl ?_
                refine WL.pass rfl rfl rfl rfl rfl rfl rfl ?_
                refine WL.op rfl (Op1.pickT (.tmp rfl) rfl .bool) ?_
                refine WL.op rfl (Op1.move (.tmp rfl)) ?_
                refine WL.pass rfl rfl rfl rfl rfl rfl rfl ?_
                refine WL.pass rfl rfl rfl rfl rfl rfl rfl ?_
                refine WL.pass rfl rfl rfl rfl rfl rfl rfl ?_
                refine WL.pass rfl rfl rfl rfl rfl rfl rfl ?_
                refine WL.op rfl (Op1.pickT (.tmp rfl) rfl .bool) ?_
                refine WL.nil ?_
                exact WN.meet true (Option.some.inj hm) ⟨Ent.q rfl, Ent.q rfl, trivial⟩ trivial
              · have hp13 := of_decide_eq_false hb12
                rw [if_neg hp13] at hm
                refine WL.run rfl rfl rfl rfl hb12 rfl rfl (Op1.fieldAddr Try.underlying37 rfl (fun w => ⟨0, Try.sizeOf9 w⟩) fapi_Item_9 (.tmp rfl)) ?_
                refine WL.run rfl rfl rfl rfl hb12 rfl rfl (Op1.load ty9 (.tmp rfl)) ?_
                refine WL.run rfl rfl rfl rfl hb12 rfl rfl (Op1.lenS Try.underlying9 (.tmp rfl)) ?_
                refine WL.run rfl rfl rfl rfl hb12 rfl rfl (Op1.gtI (.tmp rfl) (.int (inR64.2 (by omega)))) ?_
                refine WL.op rfl (Op1.pickF (.tmp rfl) hb12 (.tmp rfl)) ?_
                refine WL.op rfl (Op1.move (.tmp rfl)) ?_
                rcases bcases (decide ((100 : Int) < (x.For.length : Int))) with hb14 | hb14
                · have hp15 := of_decide_eq_true hb14
                  rw [if_pos hp15] at hm
                  refine WL.pass rfl rfl rfl rfl hb14 rfl rfl ?_
                  refine WL.pass rfl rfl rfl rfl hb14 rfl rfl ?_
                  refine WL.pass rfl rfl rfl rfl hb14 rfl rfl ?_
                  refine WL.pass rfl rfl rfl rfl hb14 rfl rfl ?_
                  refine WL.pass rfl rfl rfl rfl hb14 rfl rfl ?_
                  refine WL.op rfl (Op1.pickT (.tmp rfl) hb14 .bool) ?_
                  refine WL.op rfl (Op1.move (.tmp rfl)) ?_
                  refine WL.pass rfl rfl rfl rfl rfl rfl rfl ?_
                  refine WL.pass rfl rfl rfl rfl rfl rfl rfl ?_
                  refine WL.pass rfl rfl rfl rfl rfl rfl rfl ?_
                  refine WL.pass rfl rfl rfl rfl rfl rfl rfl ?_
                  refine WL.op rfl (Op1.pickT (.tmp rfl) rfl .bool) ?_
                  refine WL.op rfl (Op1.move (.tmp rfl)) ?_
                  refine WL.pass rfl rfl rfl rfl rfl rfl rfl ?_
                  refine WL.pass rfl rfl rfl rfl rfl rfl rfl ?_
                  refine WL.pass rfl rfl rfl rfl rfl rfl rfl ?_
                  refine WL.pass rfl rfl rfl rfl rfl rfl rfl ?_
                  refine WL.op rfl (Op1.pickT (.tmp rfl) rfl .bool) ?_
                  refine WL.op rfl (Op1.move (.tmp rfl)) ?_
                  refine WL.pass rfl rfl rfl rfl rfl rfl rfl ?_
                  refine WL.pass rfl rfl rfl rfl rfl rfl rfl ?_
                  refine WL.pass rfl rfl rfl rfl rfl rfl rfl ?_
                  refine WL.pass rfl rfl rfl rfl rfl rfl rfl ?_
                  refine WL.op rfl (Op1.pickT (.tmp rfl) rfl .bool) ?_
                  refine WL.nil ?_
                  exact WN.meet true (Option.some.inj hm) ⟨Ent.q rfl, Ent.q rfl, trivial⟩ trivial
                · have hp15 := of_decide_eq_false hb14
                  rw [if_neg hp15] at hm
                  refine WL.run rfl rfl rfl rfl hb14 rfl rfl (Op1.fieldAddr Try.underlying37 rfl (fun w => ⟨2, Try.sizeOf34 w⟩) fapi_Item_10 (.tmp rfl)) ?_
                  refine WL.run rfl rfl rfl rfl hb14 rfl rfl (Op1.fieldAddr Try.underlying34 rfl (fun w => ⟨0, Try.sizeOf9 w⟩) fapi_Start_2 (.tmp rfl)) ?_
                  refine WL.run rfl rfl rfl rfl hb14 rfl rfl (Op1.load ty9 (.tmp rfl)) ?_
                  refine WL.run rfl rfl rfl rfl hb14 rfl rfl (Op1.lenS Try.underlying9 (.tmp rfl)) ?_
                  refine WL.run rfl rfl rfl rfl hb14 rfl rfl (Op1.gtI (.tmp rfl) (.int (inR64.2 (by omega)))) ?_
                  refine WL.op rfl (Op1.pickF (.tmp rfl) hb14 (.tmp rfl)) ?_
                  refine WL.op rfl (Op1.move (.tmp rfl)) ?_
                  rcases bcases (decide ((100 : Int) < (x.Start.Event.length : Int))) with hb16 | hb16
                  · have hp17 := of_decide_eq_true hb16
                    rw [if_pos hp17] at hm
                    refine WL.pass rfl rfl rfl rfl hb16 rfl rfl ?_
                    refine WL.pass rfl rfl rfl rfl hb16 rfl rfl ?_
                    refine WL.pass rfl rfl rfl rfl hb16 rfl rfl ?_
                    refine WL.pass rfl rfl rfl rfl hb16 rfl rfl ?_
                    refine WL.op rfl (Op1.pickT (.tmp rfl) hb16 .bool) ?_
                    refine WL.op rfl (Op1.move (.tmp rfl)) ?_
                    refine WL.pass rfl rfl rfl rfl rfl rfl rfl ?_
                    refine WL.pass rfl rfl rfl rfl rfl rfl rfl ?_
                    refine WL.pass rfl rfl rfl rfl rfl rfl rfl ?_
                    refine WL.pass rfl rfl rfl rfl rfl rfl rfl ?_
                    refine WL.op rfl (Op1.pickT (.tmp rfl) rfl .bool) ?_
                    refine WL.op rfl (Op1.move (.tmp rfl)) ?_
                    refine WL.pass rfl rfl rfl rfl rfl rfl rfl ?_
                    refine WL.pass rfl rfl rfl rfl rfl rfl rfl ?_
                    refine WL.pass rfl rfl rfl rfl rfl rfl rfl ?_
                    refine WL.pass rfl rfl rfl rfl rfl rfl rfl ?_
                    refine WL.op rfl (Op1.pickT (.tmp rfl) rfl .bool) ?_
                    refine WL.nil ?_
                    exact WN.meet true (Option.some.inj hm) ⟨Ent.q rfl, Ent.q rfl, trivial⟩ trivial
                  · have hp17 := of_decide_eq_false hb16
                    rw [if_neg hp17] at hm
                    refine WL.run rfl rfl rfl rfl hb16 rfl rfl (Op1.fieldAddr Try.underlying37 rfl (fun w => ⟨0, Try.sizeOf9 w⟩) fapi_Item_14 (.tmp rfl)) ?_
                    refine WL.run rfl rfl rfl rfl hb16 rfl rfl (Op1.load ty9 (.tmp rfl)) ?_
                    refine WL.run rfl rfl rfl rfl hb16 rfl rfl (Op1.lenS Try.underlying9 (.tmp rfl)) ?_
                    refine WL.run rfl rfl rfl rfl hb16 rfl rfl (Op1.gtI (.tmp rfl) (.int (inR64.2 (by omega)))) ?_
                    refine WL.op rfl (Op1.pickF (.tmp rfl) hb16 (.tmp rfl)) ?_
                    refine WL.op rfl (Op1.move (.tmp rfl)) ?_
                    rcases bcases (decide ((100 : Int) < (x.Event.length : Int))) with hb18 | hb18
                    · have hp19 := of_decide_eq_true hb18
                      rw [if_pos hp19] at hm
                      refine WL.pass rfl rfl rfl rfl hb18 rfl rfl ?_
                      refine WL.pass rfl rfl rfl rfl hb18 rfl rfl ?_
                      refine WL.pass rfl rfl rfl rfl hb18 rfl rfl ?_
                      refine WL.pass rfl rfl rfl rfl hb18 rfl rfl ?_
                      refine WL.op rfl (Op1.pickT (.tmp rfl) hb18 .bool) ?_
                      refine WL.op rfl (Op1.move (.tmp rfl)) ?_
                      refine WL.pass rfl rfl rfl rfl rfl rfl rfl ?_
                      refine WL.pass rfl rfl rfl rfl rfl rfl rfl ?_
                      refine WL.pass rfl rfl rfl rfl rfl rfl rfl ?_
                      refine WL.pass rfl rfl rfl rfl rfl rfl rfl ?_
                      refine WL.op rfl (Op1.pickT (.tmp rfl) rfl .bool) ?_
                      refine WL.nil ?_
                      exact WN.meet true (Option.some.inj hm) ⟨Ent.q rfl, Ent.q rfl, trivial⟩ trivial
                    · have hp19 := of_decide_eq_false hb18
                      rw [if_neg hp19] at hm
                      refine WL.run rfl rfl rfl rfl hb18 rfl rfl (Op1.fieldAddr Try.underlying37 rfl (fun w => ⟨0, Try.sizeOf35 w⟩) fapi_Item_15 (.tmp rfl)) ?_
                      refine WL.run rfl rfl rfl rfl hb18 rfl rfl (Op1.load ty35 (.tmp rfl)) ?_
                      refine WL.run rfl rfl rfl rfl hb18 rfl rfl (Op1.lenL Try.underlying35 (.tmp rfl)) ?_
                      refine WL.run rfl rfl rfl rfl hb18 rfl rfl (Op1.gtI (.tmp rfl) (.int (inR64.2 (by omega)))) ?_
                      refine WL.op rfl (Op1.pickF (.tmp rfl) hb18 (.tmp rfl)) ?_
                      refine WL.op rfl (Op1.move (.tmp rfl)) ?_
                      rcases bcases (decide ((2 : Int) < (x.By.length : Int))) with hb20 | hb20
                      · have hp21 := of_decide_eq_true hb20
                        rw [if_pos hp21] at hm
                        refine WL.pass rfl rfl rfl rfl hb20 rfl rfl ?_
                        refine WL.pass rfl rfl rfl rfl hb20 rfl rfl ?_
                        refine WL.pass rfl rfl rfl rfl hb20 rfl rfl ?_
                        refine WL.pass rfl rfl rfl rfl hb20 rfl rfl ?_
                        refine WL.op rfl (Op1.pickT (.tmp rfl) hb20 .bool) ?_
                        refine WL.nil ?_
                        exact WN.meet true (Option.some.inj hm) ⟨Ent.q rfl, Ent.q rfl, trivial⟩ trivial
                      · have hp21 := of_decide_eq_false hb20
                        rw [if_neg hp21] at hm
                        refine WL.run rfl rfl rfl rfl hb20 rfl rfl (Op1.fieldAddr Try.underlying37 rfl (fun w => ⟨7, Try.sizeOf27 w⟩) fapi_Item_5 (.tmp rfl)) ?_
                        refine WL.run rfl rfl rfl rfl hb20 rfl rfl (Op1.load ty27 (.tmp rfl)) ?_
                        obtain ⟨few, hv22, hm⟩ := bind_some hm
                        refine WL.run rfl rfl rfl rfl hb20 rfl rfl (Op1.call Try.call29 (r06_Few_spec _ _ _ _ hv22) ⟨(.tmp rfl), (.int (inR64.2 (by omega))), trivial⟩) ?_
                        refine WL.run rfl rfl rfl rfl hb20 rfl rfl (Op1.notB (.tmp rfl)) ?_
                        refine WL.op rfl (Op1.pickF (.tmp rfl) hb20 (.tmp rfl)) ?_
                        refine WL.nil ?_
                        exact WN.meet (!few) (Option.some.inj hm) ⟨Ent.q rfl, Ent.q rfl, trivial⟩ trivial

theorem r07_book_spec (s0_ : api_Step) (r : Bool) (hm : M.r07_book s0_ = some r) : FSpec Try.prog 55 [(tapi_Step.is s0_)] (tB.is r) := by
  unfold M.r07_book at hm
  refine FSpec.of Try.func55 rfl rfl rfl (fun g0 => ?_)
  refine W.seq ?_
  refine W.region ?_
  refine WL.op rfl (Op1.box (.tmp rfl)) ?_
  refine WL.op rfl (Op1.assign .bool) ?_
  refine WL.nil ?_
  refine WN.seq ?_
  refine W.seq ?_
  refine W.region ?_
  refine WL.op rfl (Op1.fieldAddr Try.underlying63 rfl (fun w => ⟨0, Try.sizeOf3 w⟩) fapi_Step_0 (.tmp rfl)) ?_
  refine WL.op rfl (Op1.load ty3 (.tmp rfl)) ?_
  refine WL.op rfl (Op1.eqI (.tmp rfl) (.int (inR64.2 (by omega)))) ?_
  refine WL.op rfl (Op1.move (.tmp rfl)) ?_
  rcases bcases (decide (s0_.Kind = (0 : Int))) with hb1 | hb1
  · have hp2 := of_decide_eq_true hb1
    rw [if_pos hp2] at hm
    refine WL.run rfl rfl rfl rfl hb1 rfl rfl (Op1.fieldAddr Try.underlying63 rfl (fun w => ⟨0, Try.sizeOf9 w⟩) fapi_Step_1 (.tmp rfl)) ?_
    refine WL.run rfl rfl rfl rfl hb1 rfl rfl (Op1.load ty9 (.tmp rfl)) ?_
    refine WL.run rfl rfl rfl rfl hb1 rfl rfl (Op1.eqS (.tmp rfl) (.str rfl (by decide))) ?_
    refine WL.op rfl (Op1.pickT (.tmp rfl) hb1 (.tmp rfl)) ?_
    refine WL.op rfl (Op1.assign (.tmp rfl)) ?_
    refine WL.nil ?_
    refine WN.seq ?_
    have hr := Option.some.inj hm
    clear hm
    subst hr
    exact W.ret1 () rfl (.tmp rfl) trivial
  · have hp2 := of_decide_eq_false hb1
    rw [if_neg hp2] at hm
    refine WL.pass rfl rfl rfl rfl hb1 rfl rfl ?_
    refine WL.pass rfl rfl rfl rfl hb1 rfl rfl ?_
    refine WL.pass rfl rfl rfl rfl hb1 rfl rfl ?_
    refine WL.op rfl (Op1.pickF (.tmp rfl) hb1 .bool) ?_
    refine WL.op rfl (Op1.assign (.tmp rfl)) ?_
    refine WL.nil ?_
    refine WN.seq ?_
    have hr := Option.some.inj hm
    clear hm
    subst hr
    exact W.ret1 () rfl (.tmp rfl) trivial

theorem r07_May_spec (n : Nat) (p : List api_Step) (r : Bool) (hm : M.r07_May n p = some r) : FSpec Try.prog 54 [((tL tapi_Step).is p)] (tB.is r) := by
  unfold M.r07_May at hm
  refine FSpec.of Try.func54 rfl rfl rfl (fun g0 => ?_)
  refine W.seq ?_
  refine W.region ?_
  refine WL.op rfl (Op1.assign .bool) ?_
  refine WL.nil ?_
  refine WN.seq ?_
  refine W.seq ?_
  refine W.seq ?_
  refine W.region ?_
  refine WL.op rfl (Op1.move (.tmp rfl)) ?_
  refine WL.op rfl (Op1.lenL Try.underlying28 (.tmp rfl)) ?_
  refine WL.op rfl (Op1.gtI (.tmp rfl) (.int (inR64.2 (by omega)))) ?_
  refine WL.nil ?_
  refine WN.seq ?_
  refine W.cond (.tmp rfl) (fun hc1 => ?_) (fun hc1 => ?_)
  · have hp2 := of_decide_eq_true hc1
    rw [if_pos hp2] at hm
    refine W.seq ?_
    refine W.region ?_
    refine WL.op rfl (Op1.assign .bool) ?_
    refine WL.nil ?_
    refine WN.seq ?_
    have hr := Option.some.inj hm
    clear hm
    subst hr
    exact W.ret1 () rfl (.tmp rfl) trivial
  · have hp2 := of_decide_eq_false hc1
    rw [if_neg hp2] at hm
    refine W.skip ?_
    refine WN.seq ?_
    refine W.seq ?_
    refine W.seq ?_
    refine W.region ?_
    refine WL.op rfl (Op1.assign (.int (inR64.2 (by omega)))) ?_
    refine WL.nil ?_
    refine WN.seq ?_
    refine W.block ?_
    obtain ⟨s3, hs4, hk5⟩ := bind_some hm
    clear hm
    refine W.loop (fun m (s : Int) => M.r07_May_loop1 p m s = some s3) (fun s => [(3, ((tI .i64).is s)), (0, ((tL tapi_Step).is p))]) (fun s => []) _ (0 : Int) hs4 ⟨Ent.q rfl, Ent.q rfl, trivial⟩ trivial ?_
    rintro n6 i hm
    try dsimp only at hm
    change W _ _ _ _ _ _ _ [(3, ((tI .i64).is i)), (0, ((tL tapi_Step).is p))] []
    cases n6 with
    | zero => rw [M.r07_May_loop1.eq_1] at hm; cases hm
    | succ n6 =>
      rw [M.r07_May_loop1.eq_2] at hm
      refine W.seq ?_
      refine W.seq ?_
      refine W.region ?_
      refine WL.op rfl (Op1.move (.tmp rfl)) ?_
      refine WL.op rfl (Op1.move (.tmp rfl)) ?_
      refine WL.op rfl (Op1.lenL Try.underlying28 (.tmp rfl)) ?_
      refine WL.op rfl (Op1.ltI (.tmp rfl) (.tmp rfl)) ?_
      refine WL.nil ?_
      refine WN.seq ?_
      refine W.cond (.tmp rfl) (fun hc7 => ?_) (fun hc7 => ?_)
      · have hp8 := of_decide_eq_true hc7
        rw [if_pos hp8] at hm
        refine W.skip ?_
        refine WN.seq ?_
        refine W.seq ?_
        refine W.block ?_
        refine W.seq ?_
        obtain ⟨s9, hs10, hk11⟩ := bind_some hm
        clear hm
        refine W.join (fun s : Bool => s = s9) (fun s => [(21, (tB.is s)), (0, ((tL tapi_Step).is p)), (3, ((tI .i64).is i))]) (fun s => []) ?_ ?_
        · rintro v hj33
          try dsimp only at hj33
          subst hj33
          have hm := hk11
          clear hk11
          try dsimp only at hm
          change W _ _ _ _ _ _ _ [(21, (tB.is v)), (0, ((tL tapi_Step).is p)), (3, ((tI .i64).is i))] []
          refine W.cond (.tmp rfl) (fun hc16 => ?_) (fun hc16 => ?_)
          · have hp17 := hc16
            rw [if_pos hp17] at hm
            refine W.exit rfl ?_
            refine WN.seq ?_
            refine W.region ?_
            refine WL.op rfl (Op1.move (.tmp rfl)) ?_
            refine WL.lenL (s := 0) (.tmp rfl) fun hl18 => ?_
            refine WL.op rfl (Op1.addI1 (.tmp rfl) (.int (inR64.2 (by omega))) hp8 hl18) ?_
            refine WL.op rfl (Op1.assign (.tmp rfl)) ?_
            refine WL.nil ?_
            exact WN.again n6 (i + 1) (Nat.lt_succ_self n6) hm ⟨Ent.q rfl, Ent.q rfl, trivial⟩ trivial
          · have hp17 := ne_of_false hc16
            rw [if_neg hp17] at hm
            refine W.skip ?_
            refine WN.seq ?_
            refine W.seq ?_
            refine W.region ?_
            refine WL.op rfl (Op1.move (.tmp rfl)) ?_
            refine WL.op rfl (Op1.move (.tmp rfl)) ?_
            obtain ⟨v2, hv19, hm⟩ := bind_some hm
            refine WL.op rfl (Op1.idx hv19 Try.underlying28 Try.sizeOf63 (.tmp rfl) (.tmp rfl)) ?_
            refine WL.op rfl (Op1.fieldAddr Try.underlying63 rfl (fun w => ⟨0, Try.sizeOf3 w⟩) fapi_Step_0 (.tmp rfl)) ?_
            refine WL.op rfl (Op1.load ty3 (.tmp rfl)) ?_
            refine WL.op rfl (Op1.ltI (.tmp rfl) (.int (inR64.2 (by omega)))) ?_
            refine WL.op rfl (Op1.move (.tmp rfl)) ?_
            rcases bcases (decide (v2.Kind < (1 : Int))) with hb20 | hb20
            · have hp21 := of_decide_eq_true hb20
              rw [if_pos hp21] at hm
              refine WL.pass rfl rfl rfl rfl hb20 rfl rfl ?_
              refine WL.pass rfl rfl rfl rfl hb20 rfl rfl ?_
              refine WL.pass rfl rfl rfl rfl hb20 rfl rfl ?_
              refine WL.pass rfl rfl rfl rfl hb20 rfl rfl ?_
              refine WL.pass rfl rfl rfl rfl hb20 rfl rfl ?_
              refine WL.pass rfl rfl rfl rfl hb20 rfl rfl ?_
              refine WL.op rfl (Op1.pickT (.tmp rfl) hb20 .bool) ?_
              refine WL.op rfl (Op1.move (.tmp rfl)) ?_
              refine WL.pass rfl rfl rfl rfl rfl rfl rfl ?_
              refine WL.pass rfl rfl rfl rfl rfl rfl rfl ?_
              refine WL.pass rfl rfl rfl rfl rfl rfl rfl ?_
              refine WL.pass rfl rfl rfl rfl rfl rfl rfl ?_
              refine WL.pass rfl rfl rfl rfl rfl rfl rfl ?_
              refine WL.pass rfl rfl rfl rfl rfl rfl rfl ?_
              refine WL.pass rfl rfl rfl rfl rfl rfl rfl ?_
              refine WL.op rfl (Op1.pickT (.tmp rfl) rfl .bool) ?_
              refine WL.nil ?_
              refine WN.seq ?_
              refine W.condT (.tmp rfl) ?_
              refine W.seq ?_
              refine W.region ?_
              refine WL.op rfl (Op1.assign .bool) ?_
              refine WL.nil ?_
              refine WN.seq ?_
              have hr22 := Option.some.inj hm
              clear hm
              subst hr22
              have hm := hk5
              try dsimp only at hm
              have hr := Option.some.inj hm
              clear hm
              subst hr
              exact W.ret1 () rfl (.tmp rfl) trivial
            · have hp21 := of_decide_eq_false hb20
              rw [if_neg hp21] at hm
              refine WL.run rfl rfl rfl rfl hb20 rfl rfl (Op1.move (.tmp rfl)) ?_
              refine WL.run rfl rfl rfl rfl hb20 rfl rfl (Op1.move (.tmp rfl)) ?_
              obtain ⟨v3, hv23, hm⟩ := bind_some hm
              refine WL.run rfl rfl rfl rfl hb20 rfl rfl (Op1.idx hv23 Try.underlying28 Try.sizeOf63 (.tmp rfl) (.tmp rfl)) ?_
              refine WL.run rfl rfl rfl rfl hb20 rfl rfl (Op1.fieldAddr Try.underlying63 rfl (fun w => ⟨0, Try.sizeOf3 w⟩) fapi_Step_0 (.tmp rfl)) ?_
              refine WL.run rfl rfl rfl rfl hb20 rfl rfl (Op1.load ty3 (.tmp rfl)) ?_
              refine WL.run rfl rfl rfl rfl hb20 rfl rfl (Op1.gtI (.tmp rfl) (.int (inR64.2 (by omega)))) ?_
              refine WL.op rfl (Op1.pickF (.tmp rfl) hb20 (.tmp rfl)) ?_
              refine WL.op rfl (Op1.move (.tmp rfl)) ?_
              rcases bcases (decide ((7 : Int) < v3.Kind)) with hb24 | hb24
              · have hp25 := of_decide_eq_true hb24
                rw [if_pos hp25] at hm
                refine WL.pass rfl rfl rfl rfl hb24 rfl rfl ?_
                refine WL.pass rfl rfl rfl rfl hb24 rfl rfl ?_
                refine WL.pass rfl rfl rfl rfl hb24 rfl rfl ?_
                refine WL.pass rfl rfl rfl rfl hb24 rfl rfl ?_
                refine WL.pass rfl rfl rfl rfl hb24 rfl rfl ?_
                refine WL.pass rfl rfl rfl rfl hb24 rfl rfl ?_
                refine WL.pass rfl rfl rfl rfl hb24 rfl rfl ?_
                refine WL.op rfl (Op1.pickT (.tmp rfl) hb24 .bool) ?_
                refine WL.nil ?_
                refine WN.seq ?_
                refine W.condT (.tmp rfl) ?_
                refine W.seq ?_
                refine W.region ?_
                refine WL.op rfl (Op1.assign .bool) ?_
                refine WL.nil ?_
                refine WN.seq ?_
                have hr26 := Option.some.inj hm
                clear hm
                subst hr26
                have hm := hk5
                try dsimp only at hm
                have hr := Option.some.inj hm
                clear hm
                subst hr
                exact W.ret1 () rfl (.tmp rfl) trivial
              · have hp25 := of_decide_eq_false hb24
                rw [if_neg hp25] at hm
                refine WL.run rfl rfl rfl rfl hb24 rfl rfl (Op1.move (.tmp rfl)) ?_
                refine WL.run rfl rfl rfl rfl hb24 rfl rfl (Op1.move (.tmp rfl)) ?_
                obtain ⟨v4, hv27, hm⟩ := bind_some hm
                refine WL.run rfl rfl rfl rfl hb24 rfl rfl (Op1.idx hv27 Try.underlying28 Try.sizeOf63 (.tmp rfl) (.tmp rfl)) ?_
                refine WL.run rfl rfl rfl rfl hb24 rfl rfl (Op1.fieldAddr Try.underlying63 rfl (fun w => ⟨0, Try.sizeOf9 w⟩) fapi_Step_1 (.tmp rfl)) ?_
                refine WL.run rfl rfl rfl rfl hb24 rfl rfl (Op1.load ty9 (.tmp rfl)) ?_
                obtain ⟨may, hv28, hm⟩ := bind_some hm
                refine WL.run rfl rfl rfl rfl hb24 rfl rfl (Op1.call Try.call76 (r03_May_spec _ _ _ hv28) ⟨(.tmp rfl), trivial⟩) ?_
                refine WL.run rfl rfl rfl rfl hb24 rfl rfl (Op1.notB (.tmp rfl)) ?_
                refine WL.op rfl (Op1.pickF (.tmp rfl) hb24 (.tmp rfl)) ?_
                refine WL.nil ?_
                refine WN.seq ?_
                refine W.cond (.tmp rfl) (fun hc29 => ?_) (fun hc29 => ?_)
                · have hp30 := not_pos hc29
                  rw [if_pos hp30] at hm
                  refine W.seq ?_
                  refine W.region ?_
                  refine WL.op rfl (Op1.assign .bool) ?_
                  refine WL.nil ?_
                  refine WN.seq ?_
                  have hr31 := Option.some.inj hm
                  clear hm
                  subst hr31
                  have hm := hk5
                  try dsimp only at hm
                  have hr := Option.some.inj hm
                  clear hm
                  subst hr
                  exact W.ret1 () rfl (.tmp rfl) trivial
                · have hp30 := not_neg hc29
                  rw [if_neg hp30] at hm
                  refine W.skip ?_
                  refine WN.block ?_
                  refine WN.seq ?_
                  refine W.region ?_
                  refine WL.op rfl (Op1.move (.tmp rfl)) ?_
                  refine WL.lenL (s := 0) (.tmp rfl) fun hl32 => ?_
                  refine WL.op rfl (Op1.addI1 (.tmp rfl) (.int (inR64.2 (by omega))) hp8 hl32) ?_
                  refine WL.op rfl (Op1.assign (.tmp rfl)) ?_
                  refine WL.nil ?_
                  exact WN.again n6 (i + 1) (Nat.lt_succ_self n6) hm ⟨Ent.q rfl, Ent.q rfl, trivial⟩ trivial
        · have hm := hs10
          clear hs10
          refine W.region ?_
          refine WL.op rfl (Op1.move (.tmp rfl)) ?_
          refine WL.op rfl (Op1.eqI (.tmp rfl) (.int (inR64.2 (by omega)))) ?_
          refine WL.op rfl (Op1.move (.tmp rfl)) ?_
          rcases bcases (decide (i = (0 : Int))) with hb12 | hb12
          · have hp13 := of_decide_eq_true hb12
            rw [if_pos hp13] at hm
            refine WL.run rfl rfl rfl rfl hb12 rfl rfl (Op1.move (.tmp rfl)) ?_
            refine WL.run rfl rfl rfl rfl hb12 rfl rfl (Op1.move (.tmp rfl)) ?_
            obtain ⟨v1, hv14, hm⟩ := bind_some hm
            refine WL.run rfl rfl rfl rfl hb12 rfl rfl (Op1.idx hv14 Try.underlying28 Try.sizeOf63 (.tmp rfl) (.tmp rfl)) ?_
            refine WL.run rfl rfl rfl rfl hb12 rfl rfl (Op1.load ty63 (.tmp rfl)) ?_
            obtain ⟨book, hv15, hm⟩ := bind_some hm
            refine WL.run rfl rfl rfl rfl hb12 rfl rfl (Op1.call Try.call55 (r07_book_spec _ _ hv15) ⟨(.tmp rfl), trivial⟩) ?_
            refine WL.op rfl (Op1.pickT (.tmp rfl) hb12 (.tmp rfl)) ?_
            refine WL.nil ?_
            exact WN.meet book (Option.some.inj hm) ⟨Ent.q rfl, Ent.q rfl, Ent.q rfl, trivial⟩ trivial
          · have hp13 := of_decide_eq_false hb12
            rw [if_neg hp13] at hm
            refine WL.pass rfl rfl rfl rfl hb12 rfl rfl ?_
            refine WL.pass rfl rfl rfl rfl hb12 rfl rfl ?_
            refine WL.pass rfl rfl rfl rfl hb12 rfl rfl ?_
            refine WL.pass rfl rfl rfl rfl hb12 rfl rfl ?_
            refine WL.pass rfl rfl rfl rfl hb12 rfl rfl ?_
            refine WL.op rfl (Op1.pickF (.tmp rfl) hb12 .bool) ?_
            refine WL.nil ?_
            exact WN.meet false (Option.some.inj hm) ⟨Ent.q rfl, Ent.q rfl, Ent.q rfl, trivial⟩ trivial
      · have hp8 := of_decide_eq_false hc7
        rw [if_neg hp8] at hm
        refine W.exit rfl ?_
        have hr34 := Option.some.inj hm
        clear hm
        subst hr34
        have hm := hk5
        try dsimp only at hm
        refine WN.seq ?_
        refine W.seq ?_
        refine W.region ?_
        refine WL.op rfl (Op1.assign .bool) ?_
        refine WL.nil ?_
        refine WN.seq ?_
        have hr := Option.some.inj hm
        clear hm
        subst hr
        exact W.ret1 () rfl (.tmp rfl) trivial

theorem r07_Every_spec : ∀ (n : Nat) (u : api_Unit) (r : (List api_Unit)), M.r07_Every n u = some r → FSpec Try.prog 56 [(tapi_Unit.is u)] ((tL tapi_Unit).is r) := by
  intro n
  induction n with
  | zero => intro u r hm; cases hm
  | succ n ih =>
    intro u r hm
    rw [M.r07_Every.eq_2] at hm
    refine FSpec.of Try.func56 rfl rfl rfl (fun g0 => ?_)
    refine W.seq ?_
    refine W.region ?_
    refine WL.op rfl (Op1.box (.tmp rfl)) ?_
    refine WL.op rfl (Op1.assign (.nil (t := tapi_Unit))) ?_
    refine WL.nil ?_
    refine WN.seq ?_
    refine W.seq ?_
    refine W.region ?_
    refine WL.op rfl (Op1.load ty27 (.tmp rfl)) ?_
    refine WL.opR rfl (OpR.buildSlice (n := 1) (ys := [(0, u)]) (z := zapi_Unit) (xs := [u]) 6 Try.underlying25 el27 ze27 ⟨rfl, (.tmp rfl), trivial⟩ (by simp) (by decide) rfl) (fun k => ?_)
    refine WL.op rfl (Op1.assign (.tmp rfl)) ?_
    refine WL.nil ?_
    refine WN.seq ?_
    refine W.seq ?_
    refine W.seq ?_
    refine W.region ?_
    refine WL.op rfl (Op1.assign (.int (inR64.2 (by omega)))) ?_
    refine WL.nil ?_
    refine WN.seq ?_
    refine W.block ?_
    obtain ⟨s1, hs2, hk3⟩ := bind_some hm
    clear hm
    refine W.loop (fun m (s : ((List api_Unit) × Int) × Tok) => M.r07_Every_loop1 u (M.r07_Every n) m s.1.1 s.1.2 = some s1) (fun s => [(3, (tO tapi_Unit s.2 s.1.1)), (4, ((tI .i64).is s.1.2)), (1, (tapi_Unit.ptr u))]) (fun s => [(6, Own tapi_Unit 27 s.2 s.1.1.length)]) _ (([u], (0 : Int)), k) hs2 ⟨Ent.q rfl, Ent.q rfl, Ent.q rfl, trivial⟩ ⟨rfl, rfl, trivial⟩ ?_
    rintro n4 ⟨⟨out, i⟩, k1⟩ hm
    try dsimp only at hm
    change W _ _ _ _ _ _ _ [(3, (tO tapi_Unit k1 out)), (4, ((tI .i64).is i)), (1, (tapi_Unit.ptr u))] [(6, Own tapi_Unit 27 k1 out.length)]
    cases n4 with
    | zero => rw [M.r07_Every_loop1.eq_1] at hm; cases hm
    | succ n4 =>
      rw [M.r07_Every_loop1.eq_2] at hm
      refine W.seq ?_
      refine W.seq ?_
      refine W.region ?_
      refine WL.op rfl (Op1.move (.tmp rfl)) ?_
      refine WL.op rfl (Op1.fieldAddr Try.underlying27 rfl (fun w => ⟨0, Try.sizeOf25 w⟩) fapi_Unit_5 (.tmp rfl)) ?_
      refine WL.op rfl (Op1.load ty25 (.tmp rfl)) ?_
      refine WL.op rfl (Op1.lenL Try.underlying25 (.tmp rfl)) ?_
      refine WL.op rfl (Op1.ltI (.tmp rfl) (.tmp rfl)) ?_
      refine WL.nil ?_
      refine WN.seq ?_
      refine W.cond (.tmp rfl) (fun hc5 => ?_) (fun hc5 => ?_)
      · have hp6 := of_decide_eq_true hc5
        rw [if_pos hp6] at hm
        refine W.skip ?_
        refine WN.seq ?_
        refine W.seq ?_
        refine W.block ?_
        refine W.region ?_
        refine WL.op rfl (Op1.move (.tmp rfl)) ?_
        refine WL.op rfl (Op1.fieldAddr Try.underlying27 rfl (fun w => ⟨0, Try.sizeOf25 w⟩) fapi_Unit_5 (.tmp rfl)) ?_
        refine WL.op rfl (Op1.load ty25 (.tmp rfl)) ?_
        refine WL.op rfl (Op1.move (.tmp rfl)) ?_
        obtain ⟨v, hv7, hm⟩ := bind_some hm
        refine WL.op rfl (Op1.idx hv7 Try.underlying25 Try.sizeOf27 (.tmp rfl) (.tmp rfl)) ?_
        refine WL.op rfl (Op1.load ty27 (.tmp rfl)) ?_
        obtain ⟨every, hv8, hm⟩ := bind_some hm
        refine WL.op rfl (Op1.call Try.call56 (ih _ _ hv8) ⟨(.tmp rfl), trivial⟩) ?_
        obtain ⟨out1, hv9, hm⟩ := bind_some hm
        refine WL.opR rfl (OpR.appC (key := 6) hv9 Try.underlying25 el27 (.tmp rfl) (.tmp rfl) rfl) (fun k2 => ?_)
        refine WL.op rfl (Op1.assign (.tmp rfl)) ?_
        refine WL.nil ?_
        refine WN.block ?_
        refine WN.seq ?_
        refine W.region ?_
        refine WL.op rfl (Op1.move (.tmp rfl)) ?_
        refine WL.lenL (s := 9) (.tmp rfl) fun hl10 => ?_
        refine WL.op rfl (Op1.addI1 (.tmp rfl) (.int (inR64.2 (by omega))) hp6 hl10) ?_
        refine WL.op rfl (Op1.assign (.tmp rfl)) ?_
        refine WL.nil ?_
        exact WN.again n4 ((out1, i + 1), k2) (Nat.lt_succ_self n4) hm ⟨Ent.q rfl, Ent.q rfl, Ent.q rfl, trivial⟩ ⟨rfl, rfl, trivial⟩
      · have hp6 := of_decide_eq_false hc5
        rw [if_neg hp6] at hm
        refine W.exit rfl ?_
        have hr11 := Option.some.inj hm
        clear hm
        subst hr11
        have hm := hk3
        try dsimp only at hm
        refine WN.seq ?_
        refine W.seq ?_
        refine W.region ?_
        refine WL.op rfl (Op1.move (.tmp rfl)) ?_
        refine WL.op rfl (Op1.assign (.tmp rfl)) ?_
        refine WL.nil ?_
        refine WN.seq ?_
        have hr := Option.some.inj hm
        clear hm
        subst hr
        exact W.ret1 () rfl (Opd.own (.tmp rfl)) trivial

theorem r07_at_spec (u : api_Unit) (s0_ : api_Step) (r : Bool) (hm : M.r07_at u s0_ = some r) : FSpec Try.prog 57 [(tapi_Unit.is u), (tapi_Step.is s0_)] (tB.is r) := by
  unfold M.r07_at at hm
  refine FSpec.of Try.func57 rfl rfl rfl (fun g0 => ?_)
  refine W.seq ?_
  refine W.region ?_
  refine WL.op rfl (Op1.box (.tmp rfl)) ?_
  refine WL.op rfl (Op1.box (.tmp rfl)) ?_
  refine WL.op rfl (Op1.assign .bool) ?_
  refine WL.nil ?_
  refine WN.seq ?_
  refine W.seq ?_
  refine W.region ?_
  refine WL.op rfl (Op1.fieldAddr Try.underlying27 rfl (fun w => ⟨0, Try.sizeOf3 w⟩) fapi_Unit_1 (.tmp rfl)) ?_
  refine WL.op rfl (Op1.load ty3 (.tmp rfl)) ?_
  refine WL.op rfl (Op1.fieldAddr Try.underlying63 rfl (fun w => ⟨0, Try.sizeOf3 w⟩) fapi_Step_0 (.tmp rfl)) ?_
  refine WL.op rfl (Op1.load ty3 (.tmp rfl)) ?_
  refine WL.op rfl (Op1.eqI (.tmp rfl) (.tmp rfl)) ?_
  refine WL.op rfl (Op1.move (.tmp rfl)) ?_
  rcases bcases (decide (u.Kind = s0_.Kind)) with hb1 | hb1
  · have hp2 := of_decide_eq_true hb1
    rw [if_pos hp2] at hm
    refine WL.run rfl rfl rfl rfl hb1 rfl rfl (Op1.fieldAddr Try.underlying27 rfl (fun w => ⟨0, Try.sizeOf9 w⟩) fapi_Unit_2 (.tmp rfl)) ?_
    refine WL.run rfl rfl rfl rfl hb1 rfl rfl (Op1.load ty9 (.tmp rfl)) ?_
    refine WL.run rfl rfl rfl rfl hb1 rfl rfl (Op1.fieldAddr Try.underlying63 rfl (fun w => ⟨0, Try.sizeOf9 w⟩) fapi_Step_1 (.tmp rfl)) ?_
    refine WL.run rfl rfl rfl rfl hb1 rfl rfl (Op1.load ty9 (.tmp rfl)) ?_
    refine WL.run rfl rfl rfl rfl hb1 rfl rfl (Op1.eqS (.tmp rfl) (.tmp rfl)) ?_
    refine WL.op rfl (Op1.pickT (.tmp rfl) hb1 (.tmp rfl)) ?_
    refine WL.op rfl (Op1.assign (.tmp rfl)) ?_
    refine WL.nil ?_
    refine WN.seq ?_
    have hr := Option.some.inj hm
    clear hm
    subst hr
    exact W.ret1 () rfl (.tmp rfl) trivial
  · have hp2 := of_decide_eq_false hb1
    rw [if_neg hp2] at hm
    refine WL.pass rfl rfl rfl rfl hb1 rfl rfl ?_
    refine WL.pass rfl rfl rfl rfl hb1 rfl rfl ?_
    refine WL.pass rfl rfl rfl rfl hb1 rfl rfl ?_
    refine WL.pass rfl rfl rfl rfl hb1 rfl rfl ?_
    refine WL.pass rfl rfl rfl rfl hb1 rfl rfl ?_
    refine WL.op rfl (Op1.pickF (.tmp rfl) hb1 .bool) ?_
    refine WL.op rfl (Op1.assign (.tmp rfl)) ?_
    refine WL.nil ?_
    refine WN.seq ?_
    have hr := Option.some.inj hm
    clear hm
    subst hr
    exact W.ret1 () rfl (.tmp rfl) trivial

theorem r07_Units_spec (n : Nat) (u : api_Unit) (p : List api_Step) (r : (List api_Unit)) (hm : M.r07_Units n u p = some r) : FSpec Try.prog 34 [(tapi_Unit.is u), ((tL tapi_Step).is p)] ((tL tapi_Unit).is r) := by
  unfold M.r07_Units at hm
  refine FSpec.of Try.func34 rfl rfl rfl (fun g0 => ?_)
  refine W.seq ?_
  refine W.region ?_
  refine WL.op rfl (Op1.box (.tmp rfl)) ?_
  refine WL.op rfl (Op1.assign (.nil (t := tapi_Unit))) ?_
  refine WL.nil ?_
  refine WN.seq ?_
  refine W.seq ?_
  refine W.seq ?_
  refine W.region ?_
  refine WL.op rfl (Op1.move (.tmp rfl)) ?_
  obtain ⟨may, hv1, hm⟩ := bind_some hm
  refine WL.op rfl (Op1.call Try.call54 (r07_May_spec _ _ _ hv1) ⟨(.tmp rfl), trivial⟩) ?_
  refine WL.op rfl (Op1.notB (.tmp rfl)) ?_
  refine WL.nil ?_
  refine WN.seq ?_
  refine W.cond (.tmp rfl) (fun hc2 => ?_) (fun hc2 => ?_)
  · have hp3 := not_pos hc2
    rw [if_pos hp3] at hm
    refine W.seq ?_
    refine W.region ?_
    refine WL.op rfl (Op1.assign (.nil (t := tapi_Unit))) ?_
    refine WL.nil ?_
    refine WN.seq ?_
    have hr := Option.some.inj hm
    clear hm
    subst hr
    exact W.ret1 () rfl (.tmp rfl) trivial
  · have hp3 := not_neg hc2
    rw [if_neg hp3] at hm
    refine W.skip ?_
    refine WN.seq ?_
    refine W.seq ?_
    refine W.seq ?_
    refine W.region ?_
    refine WL.op rfl (Op1.move (.tmp rfl)) ?_
    refine WL.op rfl (Op1.lenL Try.underlying28 (.tmp rfl)) ?_
    refine WL.op rfl (Op1.eqI (.tmp rfl) (.int (inR64.2 (by omega)))) ?_
    refine WL.nil ?_
    refine WN.seq ?_
    refine W.cond (.tmp rfl) (fun hc4 => ?_) (fun hc4 => ?_)
    · have hp5 := of_decide_eq_true hc4
      rw [if_pos hp5] at hm
      refine W.seq ?_
      refine W.region ?_
      refine WL.op rfl (Op1.load ty27 (.tmp rfl)) ?_
      refine WL.op rfl (Op1.buildSlice (n := 1) (ys := [(0, u)]) (z := zapi_Unit) (xs := [u]) Try.underlying25 el27 ze27 ⟨rfl, (.tmp rfl), trivial⟩ (by simp) (by decide) rfl) ?_
      refine WL.op rfl (Op1.assign (.tmp rfl)) ?_
      refine WL.nil ?_
      refine WN.seq ?_
      have hr := Option.some.inj hm
      clear hm
      subst hr
      exact W.ret1 () rfl (.tmp rfl) trivial
    · have hp5 := of_decide_eq_false hc4
      rw [if_neg hp5] at hm
      refine W.skip ?_
      refine WN.seq ?_
      refine W.seq ?_
      refine W.region ?_
      refine WL.opR rfl (OpR.buildSlice (n := 0) (ys := []) (z := zapi_Unit) (xs := ([] : List api_Unit)) 20 Try.underlying25 el27 ze27 trivial (by simp) (by decide) rfl) (fun k => ?_)
      refine WL.op rfl (Op1.assign (.tmp rfl)) ?_
      refine WL.nil ?_
      refine WN.seq ?_
      obtain ⟨s6, hs7, hk8⟩ := bind_some hm
      clear hm
      refine W.join (fun s : ((List api_Unit)) × Tok => s.1 = s6) (fun s => [(5, (tO tapi_Unit s.2 s.1)), (1, ((tL tapi_Step).is p))]) (fun s => [(20, Own tapi_Unit 27 s.2 s.1.length)]) ?_ ?_
      · rintro ⟨now, k1⟩ hj66
        try dsimp only at hj66
        subst hj66
        have hm := hk8
        clear hk8
        try dsimp only at hm
        change W _ _ _ _ _ _ _ [(5, (tO tapi_Unit k1 now)), (1, ((tL tapi_Step).is p))] [(20, Own tapi_Unit 27 k1 now.length)]
        refine W.seq ?_
        refine W.seq ?_
        refine W.region ?_
        refine WL.op rfl (Op1.assign (.int (inR64.2 (by omega)))) ?_
        refine WL.nil ?_
        refine WN.seq ?_
        refine W.block ?_
        obtain ⟨s31, hs32, hk33⟩ := bind_some hm
        clear hm
        refine W.loop (fun m (s : (List api_Unit) × Int) => M.r07_Units_loop2 p m s.1 s.2 = some s31) (fun s => [(5, ((tL tapi_Unit).is s.1)), (8, ((tI .i64).is s.2)), (1, ((tL tapi_Step).is p))]) (fun s => []) _ (now, (1 : Int)) hs32 ⟨Ent.o rfl, Ent.q rfl, Ent.q rfl, trivial⟩ trivial ?_
        rintro n34 ⟨now2, k5⟩ hm
        try dsimp only at hm
        change W _ _ _ _ _ _ _ [(5, ((tL tapi_Unit).is now2)), (8, ((tI .i64).is k5)), (1, ((tL tapi_Step).is p))] []
        cases n34 with
        | zero => rw [M.r07_Units_loop2.eq_1] at hm; cases hm
        | succ n34 =>
          rw [M.r07_Units_loop2.eq_2] at hm
          refine W.seq ?_
          refine W.seq ?_
          refine W.region ?_
          refine WL.op rfl (Op1.move (.tmp rfl)) ?_
          refine WL.op rfl (Op1.move (.tmp rfl)) ?_
          refine WL.op rfl (Op1.lenL Try.underlying28 (.tmp rfl)) ?_
          refine WL.op rfl (Op1.ltI (.tmp rfl) (.tmp rfl)) ?_
          refine WL.nil ?_
          refine WN.seq ?_
          refine W.cond (.tmp rfl) (fun hc35 => ?_) (fun hc35 => ?_)
          · have hp36 := of_decide_eq_true hc35
            rw [if_pos hp36] at hm
            refine W.skip ?_
            refine WN.seq ?_
            refine W.seq ?_
            refine W.block ?_
            refine W.seq ?_
            refine W.region ?_
            refine WL.opR rfl (OpR.buildSlice (n := 0) (ys := []) (z := zapi_Unit) (xs := ([] : List api_Unit)) 58 Try.underlying25 el27 ze27 trivial (by simp) (by decide) rfl) (fun k6 => ?_)
            refine WL.op rfl (Op1.assign (.tmp rfl)) ?_
            refine WL.nil ?_
            refine WN.seq ?_
            refine W.seq ?_
            refine W.seq ?_
            refine W.region ?_
            refine WL.op rfl (Op1.assign (.int (inR64.2 (by omega)))) ?_
            refine WL.nil ?_
            refine WN.seq ?_
            refine W.block ?_
            obtain ⟨s37, hs38, hk39⟩ := bind_some hm
            clear hm
            refine W.loop (fun m (s : ((List api_Unit) × Int) × Tok) => M.r07_Units_loop3 p now2 k5 m s.1.1 s.1.2 = some s37) (fun s => [(9, (tO tapi_Unit s.2 s.1.1)), (10, ((tI .i64).is s.1.2)), (1, ((tL tapi_Step).is p)), (5, ((tL tapi_Unit).is now2)), (8, ((tI .i64).is k5))]) (fun s => [(58, Own tapi_Unit 27 s.2 s.1.1.length)]) _ ((([] : List api_Unit), (0 : Int)), k6) hs38 ⟨Ent.q rfl, Ent.q rfl, Ent.q rfl, Ent.q rfl, Ent.q rfl, trivial⟩ ⟨rfl, rfl, trivial⟩ ?_
            rintro n40 ⟨⟨next, i1⟩, k7⟩ hm
            try dsimp only at hm
            change W _ _ _ _ _ _ _ [(9, (tO tapi_Unit k7 next)), (10, ((tI .i64).is i1)), (1, ((tL tapi_Step).is p)), (5, ((tL tapi_Unit).is now2)), (8, ((tI .i64).is k5))] [(58, Own tapi_Unit 27 k7 next.length)]
            cases n40 with
            | zero => rw [M.r07_Units_loop3.eq_1] at hm; cases hm
            | succ n40 =>
              rw [M.r07_Units_loop3.eq_2] at hm
              refine W.seq ?_
              refine W.seq ?_
              refine W.region ?_
              refine WL.op rfl (Op1.move (.tmp rfl)) ?_
              refine WL.op rfl (Op1.move (.tmp rfl)) ?_
              refine WL.op rfl (Op1.lenL Try.underlying25 (.tmp rfl)) ?_
              refine WL.op rfl (Op1.ltI (.tmp rfl) (.tmp rfl)) ?_
              refine WL.nil ?_
              refine WN.seq ?_
              refine W.cond (.tmp rfl) (fun hc41 => ?_) (fun hc41 => ?_)
              · have hp42 := of_decide_eq_true hc41
                rw [if_pos hp42] at hm
                refine W.skip ?_
                refine WN.seq ?_
                refine W.seq ?_
                refine W.block ?_
                refine W.seq ?_
                refine W.region ?_
                refine WL.op rfl (Op1.assign (.int (inR64.2 (by omega)))) ?_
                refine WL.nil ?_
                refine WN.seq ?_
                refine W.block ?_
                obtain ⟨s43, hs44, hk45⟩ := bind_some hm
                clear hm
                refine W.loop (fun m (s : ((List api_Unit) × Int) × Tok) => M.r07_Units_loop4 p now2 k5 i1 m s.1.1 s.1.2 = some s43) (fun s => [(9, (tO tapi_Unit s.2 s.1.1)), (11, ((tI .i64).is s.1.2)), (1, ((tL tapi_Step).is p)), (5, ((tL tapi_Unit).is now2)), (8, ((tI .i64).is k5)), (10, ((tI .i64).is i1))]) (fun s => [(58, Own tapi_Unit 27 s.2 s.1.1.length)]) _ ((next, (0 : Int)), k7) hs44 ⟨Ent.q rfl, Ent.q rfl, Ent.q rfl, Ent.q rfl, Ent.q rfl, Ent.q rfl, trivial⟩ ⟨rfl, rfl, trivial⟩ ?_
                rintro n46 ⟨⟨next1, j⟩, k8⟩ hm
                try dsimp only at hm
                change W _ _ _ _ _ _ _ [(9, (tO tapi_Unit k8 next1)), (11, ((tI .i64).is j)), (1, ((tL tapi_Step).is p)), (5, ((tL tapi_Unit).is now2)), (8, ((tI .i64).is k5)), (10, ((tI .i64).is i1))] [(58, Own tapi_Unit 27 k8 next1.length)]
                cases n46 with
                | zero => rw [M.r07_Units_loop4.eq_1] at hm; cases hm
                | succ n46 =>
                  rw [M.r07_Units_loop4.eq_2] at hm
                  refine W.seq ?_
                  refine W.seq ?_
                  refine W.region ?_
                  refine WL.op rfl (Op1.move (.tmp rfl)) ?_
                  refine WL.op rfl (Op1.move (.tmp rfl)) ?_
                  refine WL.op rfl (Op1.move (.tmp rfl)) ?_
                  obtain ⟨v4, hv47, hm⟩ := bind_some hm
                  refine WL.op rfl (Op1.idx hv47 Try.underlying25 Try.sizeOf27 (.tmp rfl) (.tmp rfl)) ?_
                  refine WL.op rfl (Op1.fieldAddr Try.underlying27 rfl (fun w => ⟨0, Try.sizeOf25 w⟩) fapi_Unit_5 (.tmp rfl)) ?_
                  refine WL.op rfl (Op1.load ty25 (.tmp rfl)) ?_
                  refine WL.op rfl (Op1.lenL Try.underlying25 (.tmp rfl)) ?_
                  refine WL.op rfl (Op1.ltI (.tmp rfl) (.tmp rfl)) ?_
                  refine WL.nil ?_
                  refine WN.seq ?_
                  refine W.cond (.tmp rfl) (fun hc48 => ?_) (fun hc48 => ?_)
                  · have hp49 := of_decide_eq_true hc48
                    rw [if_pos hp49] at hm
                    refine W.skip ?_
                    refine WN.seq ?_
                    refine W.seq ?_
                    refine W.block ?_
                    refine W.seq ?_
                    obtain ⟨v5, hv50, hm⟩ := bind_some hm
                    obtain ⟨v6, hv51, hm⟩ := bind_some hm
                    obtain ⟨v7, hv52, hm⟩ := bind_some hm
                    obtain ⟨at0_1, hv53, hm⟩ := bind_some hm
                    refine W.draw [.c ((tL tapi_Unit).is now2), .c ((tI .i64).is i1), .c (tapi_Unit.ptr v5), .c ((tL tapi_Unit).ptr v5.Kids), .c ((tL tapi_Unit).is v5.Kids), .c ((tI .i64).is j), .c (tapi_Unit.ptr v6), .c (tapi_Unit.is v6), .c ((tL tapi_Step).is p), .c ((tI .i64).is k5), .c (tapi_Step.ptr v7), .c (tapi_Step.is v7), .c (tB.is at0_1)] [([], [5]), ([], [10]), ([0, 1], []), ([2], []), ([3], []), ([], [11]), ([4, 5], []), ([6], []), ([], [1]), ([], [8]), ([8, 9], []), ([10], []), ([7, 11], [])] Try.mixed rfl rfl rfl rfl ⟨.inr (Op1.move (.tmp rfl)), .inr (Op1.move (.tmp rfl)), .inr (Op1.idx hv50 Try.underlying25 Try.sizeOf27 (.tmp rfl) (.tmp rfl)), .inr (Op1.fieldAddr Try.underlying27 rfl (fun w => ⟨0, Try.sizeOf25 w⟩) fapi_Unit_5 (.tmp rfl)), .inr (Op1.load ty25 (.tmp rfl)), .inr (Op1.move (.tmp rfl)), .inr (Op1.idx hv51 Try.underlying25 Try.sizeOf27 (.tmp rfl) (.tmp rfl)), .inr (Op1.load ty27 (.tmp rfl)), .inr (Op1.move (.tmp rfl)), .inr (Op1.move (.tmp rfl)), .inr (Op1.idx hv52 Try.underlying28 Try.sizeOf63 (.tmp rfl) (.tmp rfl)), .inr (Op1.load ty63 (.tmp rfl)), .inr (Op1.call Try.call57 (r07_at_spec _ _ _ hv53) ⟨(.tmp rfl), (.tmp rfl), trivial⟩), trivial⟩ ?_
                    refine WN.seq ?_
                    refine W.cond (.tmp rfl) (fun hc54 => ?_) (fun hc54 => ?_)
                    · have hp55 := hc54
                      rw [if_pos hp55] at hm
                      refine W.region ?_
                      refine WL.op rfl (Op1.move (.tmp rfl)) ?_
                      refine WL.op rfl (Op1.move (.tmp rfl)) ?_
                      refine WL.op rfl (Op1.move (.tmp rfl)) ?_
                      obtain ⟨v8, hv56, hm⟩ := bind_some hm
                      refine WL.op rfl (Op1.idx hv56 Try.underlying25 Try.sizeOf27 (.tmp rfl) (.tmp rfl)) ?_
                      refine WL.op rfl (Op1.fieldAddr Try.underlying27 rfl (fun w => ⟨0, Try.sizeOf25 w⟩) fapi_Unit_5 (.tmp rfl)) ?_
                      refine WL.op rfl (Op1.load ty25 (.tmp rfl)) ?_
                      refine WL.op rfl (Op1.move (.tmp rfl)) ?_
                      obtain ⟨v9, hv57, hm⟩ := bind_some hm
                      refine WL.op rfl (Op1.idx hv57 Try.underlying25 Try.sizeOf27 (.tmp rfl) (.tmp rfl)) ?_
                      refine WL.op rfl (Op1.load ty27 (.tmp rfl)) ?_
                      refine WL.op rfl (Op1.buildSlice (n := 1) (ys := [(0, v9)]) (z := zapi_Unit) (xs := [v9]) Try.underlying25 el27 ze27 ⟨rfl, (.tmp rfl), trivial⟩ (by simp) (by decide) rfl) ?_
                      obtain ⟨out2, hv58, hm⟩ := bind_some hm
                      refine WL.opR rfl (OpR.appC (key := 58) hv58 Try.underlying25 el27 (.tmp rfl) (.tmp rfl) rfl) (fun k9 => ?_)
                      refine WL.op rfl (Op1.assign (.tmp rfl)) ?_
                      refine WL.nil ?_
                      refine WN.block ?_
                      refine WN.seq ?_
                      refine W.region ?_
                      refine WL.op rfl (Op1.move (.tmp rfl)) ?_
                      refine WL.lenL (s := 70) (.tmp rfl) fun hl59 => ?_
                      refine WL.op rfl (Op1.addI1 (.tmp rfl) (.int (inR64.2 (by omega))) hp49 hl59) ?_
                      refine WL.op rfl (Op1.assign (.tmp rfl)) ?_
                      refine WL.nil ?_
                      exact WN.again n46 ((out2, j + 1), k9) (Nat.lt_succ_self n46) hm ⟨Ent.q rfl, Ent.q rfl, Ent.q rfl, Ent.q rfl, Ent.q rfl, Ent.q rfl, trivial⟩ ⟨rfl, rfl, trivial⟩
                    · have hp55 := ne_of_false hc54
                      rw [if_neg hp55] at hm
                      refine W.skip ?_
                      refine WN.block ?_
                      refine WN.seq ?_
                      refine W.region ?_
                      refine WL.op rfl (Op1.move (.tmp rfl)) ?_
                      refine WL.lenL (s := 70) (.tmp rfl) fun hl60 => ?_
                      refine WL.op rfl (Op1.addI1 (.tmp rfl) (.int (inR64.2 (by omega))) hp49 hl60) ?_
                      refine WL.op rfl (Op1.assign (.tmp rfl)) ?_
                      refine WL.nil ?_
                      exact WN.again n46 ((next1, j + 1), k8) (Nat.lt_succ_self n46) hm ⟨Ent.q rfl, Ent.q rfl, Ent.q rfl, Ent.q rfl, Ent.q rfl, Ent.q rfl, trivial⟩ ⟨rfl, rfl, trivial⟩
                  · have hp49 := of_decide_eq_false hc48
                    rw [if_neg hp49] at hm
                    refine W.exit rfl ?_
                    have hr61 := Option.some.inj hm
                    clear hm
                    subst hr61
                    have hm := hk45
                    try dsimp only at hm
                    refine WN.block ?_
                    refine WN.seq ?_
                    refine W.region ?_
                    refine WL.op rfl (Op1.move (.tmp rfl)) ?_
                    obtain ⟨v10, hv62, hm⟩ := bind_some hm
                    refine WL.op rfl (Op1.addC hv62 (.tmp rfl) (.int (inR64.2 (by omega)))) ?_
                    refine WL.op rfl (Op1.assign (.tmp rfl)) ?_
                    refine WL.nil ?_
                    exact WN.again n40 ((next1, v10), k8) (Nat.lt_succ_self n40) hm ⟨Ent.q rfl, Ent.q rfl, Ent.q rfl, Ent.q rfl, Ent.q rfl, trivial⟩ ⟨rfl, rfl, trivial⟩
              · have hp42 := of_decide_eq_false hc41
                rw [if_neg hp42] at hm
                refine W.exit rfl ?_
                have hr63 := Option.some.inj hm
                clear hm
                subst hr63
                have hm := hk39
                try dsimp only at hm
                refine WN.seq ?_
                refine W.region ?_
                refine WL.op rfl (Op1.move (.tmp rfl)) ?_
                refine WL.op rfl (Op1.assign (.tmp rfl)) ?_
                refine WL.nil ?_
                refine WN.block ?_
                refine WN.seq ?_
                refine W.region ?_
                refine WL.op rfl (Op1.move (.tmp rfl)) ?_
                obtain ⟨v11, hv64, hm⟩ := bind_some hm
                refine WL.op rfl (Op1.addC hv64 (.tmp rfl) (.int (inR64.2 (by omega)))) ?_
                refine WL.op rfl (Op1.assign (.tmp rfl)) ?_
                refine WL.nil ?_
                exact WN.again n34 (next, v11) (Nat.lt_succ_self n34) hm ⟨Ent.o rfl, Ent.q rfl, Ent.q rfl, trivial⟩ trivial
          · have hp36 := of_decide_eq_false hc35
            rw [if_neg hp36] at hm
            refine W.exit rfl ?_
            have hr65 := Option.some.inj hm
            clear hm
            subst hr65
            have hm := hk33
            try dsimp only at hm
            refine WN.seq ?_
            refine W.seq ?_
            refine W.region ?_
            refine WL.op rfl (Op1.move (.tmp rfl)) ?_
            refine WL.op rfl (Op1.assign (.tmp rfl)) ?_
            refine WL.nil ?_
            refine WN.seq ?_
            have hr := Option.some.inj hm
            clear hm
            subst hr
            exact W.ret1 () rfl (.tmp rfl) trivial
      · have hm := hs7
        clear hs7
        refine W.seq ?_
        refine W.region ?_
        refine WL.op rfl (Op1.move (.tmp rfl)) ?_
        obtain ⟨v, hv9, hm⟩ := bind_some hm
        refine WL.op rfl (Op1.idx hv9 Try.underlying28 Try.sizeOf63 (.tmp rfl) (.int (inR64.2 (by omega)))) ?_
        refine WL.op rfl (Op1.load ty63 (.tmp rfl)) ?_
        obtain ⟨book, hv10, hm⟩ := bind_some hm
        refine WL.op rfl (Op1.call Try.call55 (r07_book_spec _ _ hv10) ⟨(.tmp rfl), trivial⟩) ?_
        refine WL.nil ?_
        refine WN.seq ?_
        refine W.cond (.tmp rfl) (fun hc11 => ?_) (fun hc11 => ?_)
        · have hp12 := hc11
          rw [if_pos hp12] at hm
          refine W.region ?_
          refine WL.op rfl (Op1.move (.tmp rfl)) ?_
          refine WL.op rfl (Op1.load ty27 (.tmp rfl)) ?_
          refine WL.op rfl (Op1.buildSlice (n := 1) (ys := [(0, u)]) (z := zapi_Unit) (xs := [u]) Try.underlying25 el27 ze27 ⟨rfl, (.tmp rfl), trivial⟩ (by simp) (by decide) rfl) ?_
          obtain ⟨out, hv13, hm⟩ := bind_some hm
          refine WL.opR rfl (OpR.appC (key := 20) hv13 Try.underlying25 el27 (.tmp rfl) (.tmp rfl) rfl) (fun k2 => ?_)
          refine WL.op rfl (Op1.assign (.tmp rfl)) ?_
          refine WL.nil ?_
          exact WN.meet (out, k2) (Option.some.inj hm) ⟨Ent.q rfl, Ent.q rfl, trivial⟩ ⟨rfl, rfl, trivial⟩
        · have hp12 := ne_of_false hc11
          rw [if_neg hp12] at hm
          refine W.seq ?_
          refine W.region ?_
          refine WL.op rfl (Op1.load ty27 (.tmp rfl)) ?_
          obtain ⟨every, hv14, hm⟩ := bind_some hm
          refine WL.op rfl (Op1.call Try.call56 (r07_Every_spec _ _ _ hv14) ⟨(.tmp rfl), trivial⟩) ?_
          refine WL.op rfl (Op1.assign (.tmp rfl)) ?_
          refine WL.nil ?_
          refine WN.seq ?_
          refine W.seq ?_
          refine W.region ?_
          refine WL.op rfl (Op1.assign (.int (inR64.2 (by omega)))) ?_
          refine WL.nil ?_
          refine WN.seq ?_
          refine W.block ?_
          obtain ⟨s15, hs16, hk17⟩ := bind_some hm
          clear hm
          refine W.loop (fun m (s : ((List api_Unit) × Int) × Tok) => M.r07_Units_loop1 p every m s.1.1 s.1.2 = some s15) (fun s => [(5, (tO tapi_Unit s.2 s.1.1)), (7, ((tI .i64).is s.1.2)), (1, ((tL tapi_Step).is p)), (6, ((tL tapi_Unit).is every))]) (fun s => [(20, Own tapi_Unit 27 s.2 s.1.1.length)]) _ ((([] : List api_Unit), (0 : Int)), k) hs16 ⟨Ent.q rfl, Ent.q rfl, Ent.q rfl, Ent.q rfl, trivial⟩ ⟨rfl, rfl, trivial⟩ ?_
          rintro n18 ⟨⟨now1, i⟩, k3⟩ hm
          try dsimp only at hm
          change W _ _ _ _ _ _ _ [(5, (tO tapi_Unit k3 now1)), (7, ((tI .i64).is i)), (1, ((tL tapi_Step).is p)), (6, ((tL tapi_Unit).is every))] [(20, Own tapi_Unit 27 k3 now1.length)]
          cases n18 with
          | zero => rw [M.r07_Units_loop1.eq_1] at hm; cases hm
          | succ n18 =>
            rw [M.r07_Units_loop1.eq_2] at hm
            refine W.seq ?_
            refine W.seq ?_
            refine W.region ?_
            refine WL.op rfl (Op1.move (.tmp rfl)) ?_
            refine WL.op rfl (Op1.move (.tmp rfl)) ?_
            refine WL.op rfl (Op1.lenL Try.underlying25 (.tmp rfl)) ?_
            refine WL.op rfl (Op1.ltI (.tmp rfl) (.tmp rfl)) ?_
            refine WL.nil ?_
            refine WN.seq ?_
            refine W.cond (.tmp rfl) (fun hc19 => ?_) (fun hc19 => ?_)
            · have hp20 := of_decide_eq_true hc19
              rw [if_pos hp20] at hm
              refine W.skip ?_
              refine WN.seq ?_
              refine W.seq ?_
              refine W.block ?_
              refine W.seq ?_
              obtain ⟨v1, hv21, hm⟩ := bind_some hm
              obtain ⟨v2, hv22, hm⟩ := bind_some hm
              obtain ⟨at0_, hv23, hm⟩ := bind_some hm
              refine W.draw [.c ((tL tapi_Unit).is every), .c ((tI .i64).is i), .c (tapi_Unit.ptr v1), .c (tapi_Unit.is v1), .c ((tL tapi_Step).is p), .c (tapi_Step.ptr v2), .c (tapi_Step.is v2), .c (tB.is at0_)] [([], [6]), ([], [7]), ([0, 1], []), ([2], []), ([], [1]), ([4], []), ([5], []), ([3, 6], [])] Try.mixed rfl rfl rfl rfl ⟨.inr (Op1.move (.tmp rfl)), .inr (Op1.move (.tmp rfl)), .inr (Op1.idx hv21 Try.underlying25 Try.sizeOf27 (.tmp rfl) (.tmp rfl)), .inr (Op1.load ty27 (.tmp rfl)), .inr (Op1.move (.tmp rfl)), .inr (Op1.idx hv22 Try.underlying28 Try.sizeOf63 (.tmp rfl) (.int (inR64.2 (by omega)))), .inr (Op1.load ty63 (.tmp rfl)), .inr (Op1.call Try.call57 (r07_at_spec _ _ _ hv23) ⟨(.tmp rfl), (.tmp rfl), trivial⟩), trivial⟩ ?_
              refine WN.seq ?_
              refine W.cond (.tmp rfl) (fun hc24 => ?_) (fun hc24 => ?_)
              · have hp25 := hc24
                rw [if_pos hp25] at hm
                refine W.region ?_
                refine WL.op rfl (Op1.move (.tmp rfl)) ?_
                refine WL.op rfl (Op1.move (.tmp rfl)) ?_
                refine WL.op rfl (Op1.move (.tmp rfl)) ?_
                obtain ⟨v3, hv26, hm⟩ := bind_some hm
                refine WL.op rfl (Op1.idx hv26 Try.underlying25 Try.sizeOf27 (.tmp rfl) (.tmp rfl)) ?_
                refine WL.op rfl (Op1.load ty27 (.tmp rfl)) ?_
                refine WL.op rfl (Op1.buildSlice (n := 1) (ys := [(0, v3)]) (z := zapi_Unit) (xs := [v3]) Try.underlying25 el27 ze27 ⟨rfl, (.tmp rfl), trivial⟩ (by simp) (by decide) rfl) ?_
                obtain ⟨out1, hv27, hm⟩ := bind_some hm
                refine WL.opR rfl (OpR.appC (key := 20) hv27 Try.underlying25 el27 (.tmp rfl) (.tmp rfl) rfl) (fun k4 => ?_)
                refine WL.op rfl (Op1.assign (.tmp rfl)) ?_
                refine WL.nil ?_
                refine WN.block ?_
                refine WN.seq ?_
                refine W.region ?_
                refine WL.op rfl (Op1.move (.tmp rfl)) ?_
                refine WL.lenL (s := 6) (.tmp rfl) fun hl28 => ?_
                refine WL.op rfl (Op1.addI1 (.tmp rfl) (.int (inR64.2 (by omega))) hp20 hl28) ?_
                refine WL.op rfl (Op1.assign (.tmp rfl)) ?_
                refine WL.nil ?_
                exact WN.again n18 ((out1, i + 1), k4) (Nat.lt_succ_self n18) hm ⟨Ent.q rfl, Ent.q rfl, Ent.q rfl, Ent.q rfl, trivial⟩ ⟨rfl, rfl, trivial⟩
              · have hp25 := ne_of_false hc24
                rw [if_neg hp25] at hm
                refine W.skip ?_
                refine WN.block ?_
                refine WN.seq ?_
                refine W.region ?_
                refine WL.op rfl (Op1.move (.tmp rfl)) ?_
                refine WL.lenL (s := 6) (.tmp rfl) fun hl29 => ?_
                refine WL.op rfl (Op1.addI1 (.tmp rfl) (.int (inR64.2 (by omega))) hp20 hl29) ?_
                refine WL.op rfl (Op1.assign (.tmp rfl)) ?_
                refine WL.nil ?_
                exact WN.again n18 ((now1, i + 1), k3) (Nat.lt_succ_self n18) hm ⟨Ent.q rfl, Ent.q rfl, Ent.q rfl, Ent.q rfl, trivial⟩ ⟨rfl, rfl, trivial⟩
            · have hp20 := of_decide_eq_false hc19
              rw [if_neg hp20] at hm
              refine W.exit rfl ?_
              have hr30 := Option.some.inj hm
              clear hm
              subst hr30
              have hm := hk17
              try dsimp only at hm
              exact WN.meet (now1, k3) (Option.some.inj hm) ⟨Ent.q rfl, Ent.q rfl, trivial⟩ ⟨rfl, rfl, trivial⟩

theorem r07_Find_spec (n : Nat) (u : api_Unit) (p : List api_Step) (r : (List api_Id)) (hm : M.r07_Find n u p = some r) : FSpec Try.prog 21 [(tapi_Unit.is u), ((tL tapi_Step).is p)] ((tL tapi_Id).is r) := by
  unfold M.r07_Find at hm
  refine FSpec.of Try.func21 rfl rfl rfl (fun g0 => ?_)
  refine W.seq ?_
  refine W.region ?_
  refine WL.op rfl (Op1.box (.tmp rfl)) ?_
  refine WL.op rfl (Op1.assign (.nil (t := tapi_Id))) ?_
  refine WL.nil ?_
  refine WN.seq ?_
  refine W.seq ?_
  refine W.region ?_
  refine WL.opR rfl (OpR.buildSlice (n := 0) (ys := []) (z := zapi_Id) (xs := ([] : List api_Id)) 8 Try.underlying42 el23 ze23 trivial (by simp) (by decide) rfl) (fun k => ?_)
  refine WL.op rfl (Op1.assign (.tmp rfl)) ?_
  refine WL.nil ?_
  refine WN.seq ?_
  refine W.seq ?_
  refine W.region ?_
  refine WL.op rfl (Op1.load ty27 (.tmp rfl)) ?_
  refine WL.op rfl (Op1.move (.tmp rfl)) ?_
  obtain ⟨units, hv1, hm⟩ := bind_some hm
  refine WL.op rfl (Op1.call Try.call34 (r07_Units_spec _ _ _ _ hv1) ⟨(.tmp rfl), (.tmp rfl), trivial⟩) ?_
  refine WL.op rfl (Op1.assign (.tmp rfl)) ?_
  refine WL.nil ?_
  refine WN.seq ?_
  refine W.seq ?_
  refine W.seq ?_
  refine W.region ?_
  refine WL.op rfl (Op1.assign (.int (inR64.2 (by omega)))) ?_
  refine WL.nil ?_
  refine WN.seq ?_
  refine W.block ?_
  obtain ⟨s2, hs3, hk4⟩ := bind_some hm
  clear hm
  refine W.loop (fun m (s : ((List api_Id) × Int) × Tok) => M.r07_Find_loop1 units m s.1.1 s.1.2 = some s2) (fun s => [(5, (tO tapi_Id s.2 s.1.1)), (7, ((tI .i64).is s.1.2)), (6, ((tL tapi_Unit).is units))]) (fun s => [(8, Own tapi_Id 23 s.2 s.1.1.length)]) _ ((([] : List api_Id), (0 : Int)), k) hs3 ⟨Ent.q rfl, Ent.q rfl, Ent.q rfl, trivial⟩ ⟨rfl, rfl, trivial⟩ ?_
  rintro n5 ⟨⟨out, i⟩, k1⟩ hm
  try dsimp only at hm
  change W _ _ _ _ _ _ _ [(5, (tO tapi_Id k1 out)), (7, ((tI .i64).is i)), (6, ((tL tapi_Unit).is units))] [(8, Own tapi_Id 23 k1 out.length)]
  cases n5 with
  | zero => rw [M.r07_Find_loop1.eq_1] at hm; cases hm
  | succ n5 =>
    rw [M.r07_Find_loop1.eq_2] at hm
    refine W.seq ?_
    refine W.seq ?_
    refine W.region ?_
    refine WL.op rfl (Op1.move (.tmp rfl)) ?_
    refine WL.op rfl (Op1.move (.tmp rfl)) ?_
    refine WL.op rfl (Op1.lenL Try.underlying25 (.tmp rfl)) ?_
    refine WL.op rfl (Op1.ltI (.tmp rfl) (.tmp rfl)) ?_
    refine WL.nil ?_
    refine WN.seq ?_
    refine W.cond (.tmp rfl) (fun hc6 => ?_) (fun hc6 => ?_)
    · have hp7 := of_decide_eq_true hc6
      rw [if_pos hp7] at hm
      refine W.skip ?_
      refine WN.seq ?_
      refine W.seq ?_
      refine W.block ?_
      refine W.region ?_
      refine WL.op rfl (Op1.move (.tmp rfl)) ?_
      refine WL.op rfl (Op1.move (.tmp rfl)) ?_
      refine WL.op rfl (Op1.move (.tmp rfl)) ?_
      obtain ⟨v, hv8, hm⟩ := bind_some hm
      refine WL.op rfl (Op1.idx hv8 Try.underlying25 Try.sizeOf27 (.tmp rfl) (.tmp rfl)) ?_
      refine WL.op rfl (Op1.fieldAddr Try.underlying27 rfl (fun w => ⟨2, Try.sizeOf23 w⟩) fapi_Unit_0 (.tmp rfl)) ?_
      refine WL.op rfl (Op1.load ty23 (.tmp rfl)) ?_
      refine WL.op rfl (Op1.buildSlice (n := 1) (ys := [(0, v.Id)]) (z := zapi_Id) (xs := [v.Id]) Try.underlying42 el23 ze23 ⟨rfl, (.tmp rfl), trivial⟩ (by simp) (by decide) rfl) ?_
      obtain ⟨out1, hv9, hm⟩ := bind_some hm
      refine WL.opR rfl (OpR.appC (key := 8) hv9 Try.underlying42 el23 (.tmp rfl) (.tmp rfl) rfl) (fun k2 => ?_)
      refine WL.op rfl (Op1.assign (.tmp rfl)) ?_
      refine WL.nil ?_
      refine WN.block ?_
      refine WN.seq ?_
      refine W.region ?_
      refine WL.op rfl (Op1.move (.tmp rfl)) ?_
      refine WL.lenL (s := 6) (.tmp rfl) fun hl10 => ?_
      refine WL.op rfl (Op1.addI1 (.tmp rfl) (.int (inR64.2 (by omega))) hp7 hl10) ?_
      refine WL.op rfl (Op1.assign (.tmp rfl)) ?_
      refine WL.nil ?_
      exact WN.again n5 ((out1, i + 1), k2) (Nat.lt_succ_self n5) hm ⟨Ent.q rfl, Ent.q rfl, Ent.q rfl, trivial⟩ ⟨rfl, rfl, trivial⟩
    · have hp7 := of_decide_eq_false hc6
      rw [if_neg hp7] at hm
      refine W.exit rfl ?_
      have hr11 := Option.some.inj hm
      clear hm
      subst hr11
      have hm := hk4
      try dsimp only at hm
      refine WN.seq ?_
      refine W.seq ?_
      refine W.region ?_
      refine WL.op rfl (Op1.move (.tmp rfl)) ?_
      refine WL.op rfl (Op1.assign (.tmp rfl)) ?_
      refine WL.nil ?_
      refine WN.seq ?_
      have hr := Option.some.inj hm
      clear hm
      subst hr
      exact W.ret1 () rfl (Opd.own (.tmp rfl)) trivial

theorem r07_One_spec (n : Nat) (u : api_Unit) (p : List api_Step) (r : api_Id × Int) (hm : M.r07_One n u p = some r) : FSpec Try.prog 18 [(tapi_Unit.is u), ((tL tapi_Step).is p)] (Asn.tuple2 (tapi_Id.is r.1) ((tI .i64).is r.2)) := by
  unfold M.r07_One at hm
  refine FSpec.of Try.func18 rfl rfl rfl (fun g0 => ?_)
  refine W.seq ?_
  refine W.region ?_
  refine WL.op rfl (Op1.box (.tmp rfl)) ?_
  refine WL.opR rfl (OpR.alloc 4 ze23) (fun b => ?_)
  refine WL.op rfl (Op1.assign (.int (inR64.2 (by omega)))) ?_
  refine WL.nil ?_
  refine WN.seq ?_
  refine W.seq ?_
  refine W.region ?_
  refine WL.op rfl (Op1.load ty27 (.tmp rfl)) ?_
  refine WL.op rfl (Op1.move (.tmp rfl)) ?_
  obtain ⟨find, hv1, hm⟩ := bind_some hm
  refine WL.op rfl (Op1.call Try.call21 (r07_Find_spec _ _ _ _ hv1) ⟨(.tmp rfl), (.tmp rfl), trivial⟩) ?_
  refine WL.op rfl (Op1.assign (.tmp rfl)) ?_
  refine WL.nil ?_
  refine WN.seq ?_
  refine W.seq ?_
  refine W.seq ?_
  refine W.region ?_
  refine WL.op rfl (Op1.move (.tmp rfl)) ?_
  refine WL.op rfl (Op1.lenL Try.underlying42 (.tmp rfl)) ?_
  refine WL.op rfl (Op1.eqI (.tmp rfl) (.int (inR64.2 (by omega)))) ?_
  refine WL.nil ?_
  refine WN.seq ?_
  refine W.cond (.tmp rfl) (fun hc2 => ?_) (fun hc2 => ?_)
  · have hp3 := of_decide_eq_true hc2
    rw [if_pos hp3] at hm
    refine W.seq ?_
    refine W.region ?_
    refine WL.op rfl (Op1.build (s := tapi_Id) (x := (⟨(0 : Int), (0 : Int), (0 : Int)⟩ : api_Id)) zapi_Id_f rfl Try.underlying23 (zapi_Id_sz _ Try.underlying23) ze23 rfl) ?_
    refine WL.opU (OpR.storeB (b := b) 4 Try.sizeOf23 (Cellable.is tapi_Id (⟨(0 : Int), (0 : Int), (0 : Int)⟩ : api_Id)) rfl (.tmp rfl) (.tmp rfl)) (fun _ => ?_)
    refine WL.op rfl (Op1.assign (.int (inR64.2 (by omega)))) ?_
    refine WL.nil ?_
    refine WN.seq ?_
    have hr := Option.some.inj hm
    clear hm
    subst hr
    exact W.retQ2 () rfl rfl (ResAt.cell 4 Try.isAgg23 Try.sizeOf23 rfl (.tmp rfl)) (ResAt.tmp (.tmp rfl)) trivial
  · have hp3 := of_decide_eq_false hc2
    rw [if_neg hp3] at hm
    refine W.skip ?_
    refine WN.seq ?_
    refine W.seq ?_
    refine W.seq ?_
    refine W.region ?_
    refine WL.op rfl (Op1.move (.tmp rfl)) ?_
    refine WL.op rfl (Op1.lenL Try.underlying42 (.tmp rfl)) ?_
    refine WL.op rfl (Op1.gtI (.tmp rfl) (.int (inR64.2 (by omega)))) ?_
    refine WL.nil ?_
    refine WN.seq ?_
    refine W.cond (.tmp rfl) (fun hc4 => ?_) (fun hc4 => ?_)
    · have hp5 := of_decide_eq_true hc4
      rw [if_pos hp5] at hm
      refine W.seq ?_
      refine W.region ?_
      refine WL.op rfl (Op1.build (s := tapi_Id) (x := (⟨(0 : Int), (0 : Int), (0 : Int)⟩ : api_Id)) zapi_Id_f rfl Try.underlying23 (zapi_Id_sz _ Try.underlying23) ze23 rfl) ?_
      refine WL.opU (OpR.storeB (b := b) 4 Try.sizeOf23 (Cellable.is tapi_Id (⟨(0 : Int), (0 : Int), (0 : Int)⟩ : api_Id)) rfl (.tmp rfl) (.tmp rfl)) (fun _ => ?_)
      refine WL.op rfl (Op1.assign (.int (inR64.2 (by omega)))) ?_
      refine WL.nil ?_
      refine WN.seq ?_
      have hr := Option.some.inj hm
      clear hm
      subst hr
      exact W.retQ2 () rfl rfl (ResAt.cell 4 Try.isAgg23 Try.sizeOf23 rfl (.tmp rfl)) (ResAt.tmp (.tmp rfl)) trivial
    · have hp5 := of_decide_eq_false hc4
      rw [if_neg hp5] at hm
      refine W.skip ?_
      refine WN.seq ?_
      refine W.seq ?_
      refine W.region ?_
      refine WL.op rfl (Op1.move (.tmp rfl)) ?_
      obtain ⟨v, hv6, hm⟩ := bind_some hm
      refine WL.op rfl (Op1.idx hv6 Try.underlying42 Try.sizeOf23 (.tmp rfl) (.int (inR64.2 (by omega)))) ?_
      refine WL.op rfl (Op1.load ty23 (.tmp rfl)) ?_
      refine WL.opU (OpR.storeB (b := b) 4 Try.sizeOf23 (Cellable.is tapi_Id v) rfl (.tmp rfl) (.tmp rfl)) (fun _ => ?_)
      refine WL.op rfl (Op1.assign (.int (inR64.2 (by omega)))) ?_
      refine WL.nil ?_
      refine WN.seq ?_
      have hr := Option.some.inj hm
      clear hm
      subst hr
      exact W.retQ2 () rfl rfl (ResAt.cell 4 Try.isAgg23 Try.sizeOf23 rfl (.tmp rfl)) (ResAt.tmp (.tmp rfl)) trivial

theorem r06_Find_spec : ∀ (n : Nat) (u : api_Unit) (id : api_Id) (r : api_Unit × Bool), M.r06_Find n u id = some r → FSpec Try.prog 15 [(tapi_Unit.is u), (tapi_Id.is id)] (Asn.tuple2 (tapi_Unit.is r.1) (tB.is r.2)) := by
  intro n
  induction n with
  | zero => intro u id r hm; cases hm
  | succ n ih =>
    intro u id r hm
    rw [M.r06_Find.eq_2] at hm
    refine FSpec.of Try.func15 rfl rfl rfl (fun g0 => ?_)
    refine W.seq ?_
    refine W.region ?_
    refine WL.op rfl (Op1.box (.tmp rfl)) ?_
    refine WL.op rfl (Op1.box (.tmp rfl)) ?_
    refine WL.opR rfl (OpR.alloc 4 ze27) (fun b => ?_)
    refine WL.op rfl (Op1.assign .bool) ?_
    refine WL.nil ?_
    refine WN.seq ?_
    refine W.seq ?_
    refine W.seq ?_
    refine W.region ?_
    refine WL.op rfl (Op1.fieldAddr Try.underlying27 rfl (fun w => ⟨2, Try.sizeOf23 w⟩) fapi_Unit_0 (.tmp rfl)) ?_
    refine WL.op rfl (Op1.load ty23 (.tmp rfl)) ?_
    refine WL.op rfl (Op1.load ty23 (.tmp rfl)) ?_
    refine WL.op rfl (Op1.eqSt (D := 2) rfl (by decide) eg23 eq23 (.tmp rfl) (.tmp rfl)) ?_
    refine WL.nil ?_
    refine WN.seq ?_
    refine W.cond (.tmp rfl) (fun hc1 => ?_) (fun hc1 => ?_)
    · have hp2 := of_decide_eq_true hc1
      rw [if_pos hp2] at hm
      refine W.seq ?_
      refine W.region ?_
      refine WL.op rfl (Op1.load ty27 (.tmp rfl)) ?_
      refine WL.opU (OpR.storeB (b := b) 4 Try.sizeOf27 (Cellable.is tapi_Unit u) rfl (.tmp rfl) (.tmp rfl)) (fun _ => ?_)
      refine WL.op rfl (Op1.assign .bool) ?_
      refine WL.nil ?_
      refine WN.seq ?_
      have hr := Option.some.inj hm
      clear hm
      subst hr
      exact W.retQ2 () rfl rfl (ResAt.cell 4 Try.isAgg27 Try.sizeOf27 rfl (.tmp rfl)) (ResAt.tmp (.tmp rfl)) trivial
    · have hp2 := of_decide_eq_false hc1
      rw [if_neg hp2] at hm
      refine W.skip ?_
      refine WN.seq ?_
      refine W.seq ?_
      refine W.seq ?_
      refine W.region ?_
      refine WL.op rfl (Op1.assign (.int (inR64.2 (by omega)))) ?_
      refine WL.nil ?_
      refine WN.seq ?_
      refine W.block ?_
      obtain ⟨s3, hs4, hk5⟩ := bind_some hm
      clear hm
      refine W.loop (fun m (s : Int × api_Unit) => M.r06_Find_loop1 u id (M.r06_Find n) m s.1 s.2 = some s3) (fun s => [(6, ((tI .i64).is s.1)), (2, (tapi_Unit.ptr u)), (3, (tapi_Id.ptr id)), (4, (Bp b 0))]) (fun s => [(4, (Bx 8 true 27 (tapi_Unit.is s.2) b))]) _ ((0 : Int), zapi_Unit) hs4 ⟨Ent.q rfl, Ent.q rfl, Ent.q rfl, Ent.q rfl, trivial⟩ ⟨rfl, rfl, trivial⟩ ?_
      rintro n6 ⟨i, v⟩ hm
      try dsimp only at hm
      change W _ _ _ _ _ _ _ [(6, ((tI .i64).is i)), (2, (tapi_Unit.ptr u)), (3, (tapi_Id.ptr id)), (4, (Bp b 0))] [(4, (Bx 8 true 27 (tapi_Unit.is v) b))]
      cases n6 with
      | zero => rw [M.r06_Find_loop1.eq_1] at hm; cases hm
      | succ n6 =>
        rw [M.r06_Find_loop1.eq_2] at hm
        refine W.seq ?_
        refine W.seq ?_
        refine W.region ?_
        refine WL.op rfl (Op1.move (.tmp rfl)) ?_
        refine WL.op rfl (Op1.fieldAddr Try.underlying27 rfl (fun w => ⟨0, Try.sizeOf25 w⟩) fapi_Unit_5 (.tmp rfl)) ?_
        refine WL.op rfl (Op1.load ty25 (.tmp rfl)) ?_
        refine WL.op rfl (Op1.lenL Try.underlying25 (.tmp rfl)) ?_
        refine WL.op rfl (Op1.ltI (.tmp rfl) (.tmp rfl)) ?_
        refine WL.nil ?_
        refine WN.seq ?_
        refine W.cond (.tmp rfl) (fun hc7 => ?_) (fun hc7 => ?_)
        · have hp8 := of_decide_eq_true hc7
          rw [if_pos hp8] at hm
          refine W.skip ?_
          refine WN.seq ?_
          refine W.seq ?_
          refine W.block ?_
          refine W.seq ?_
          obtain ⟨v1, hv9, hm⟩ := bind_some hm
          obtain ⟨find, hv10, hm⟩ := bind_some hm
          refine W.weakR (res' := [(4, (Bx 8 true 27 (tapi_Unit.is v) b))]) ⟨rfl, rfl, trivial⟩ ?_
          refine W.drawM [.c ((tL tapi_Unit).ptr u.Kids), .c ((tL tapi_Unit).is u.Kids), .c ((tI .i64).is i), .c (tapi_Unit.ptr v1), .c (tapi_Unit.is v1), .c (tapi_Id.is id), .c (Asn.tuple2 (tapi_Unit.is find.1) (tB.is find.2)), .c (Asn.tuple2 (tapi_Unit.is find.1) (tB.is find.2)), .c (tapi_Unit.is find.1), .c (tB.is find.2), .f (fun cv => (Bp (bk (cv 0)) 0)), .c Asn.any, .c (tB.is find.2)] [([], [2]), ([0], []), ([], [6]), ([1, 2], []), ([3], []), ([], [3]), ([4, 5], []), ([6], []), ([7], []), ([7], []), ([], []), ([8, 10], []), ([9], [])] [10, 11] [[], [], [], [], [], [], [], [], [], [], [true], [], []] (fun m cv => match m with | 0 => [(4, (Bx 8 true 27 (tapi_Unit.is v) b))] | 1 => [(7, (Bx 8 true 27 (tapi_Unit.is zapi_Unit) (bk (cv 0)))), (4, (Bx 8 true 27 (tapi_Unit.is v) b))] | _ => [(7, (Bx 8 true 27 (tapi_Unit.is find.1) (bk (cv 0)))), (4, (Bx 8 true 27 (tapi_Unit.is v) b))]) (fun _ => none) Try.mixed rfl rfl rfl rfl rfl ⟨fun _ _ _ _ => rfl, ⟨fun _ _ _ _ => rfl, ⟨fun _ _ _ _ => rfl, ⟨fun _ _ _ _ => rfl, ⟨fun _ _ _ _ => rfl, ⟨fun _ _ _ _ => rfl, ⟨fun _ _ _ _ => rfl, ⟨fun _ _ _ _ => rfl, ⟨fun _ _ _ _ => rfl, ⟨fun _ _ _ _ => rfl, ⟨fun m hm c t => by simp only [DA.at, upd_dep (r := [true]) (j := 0) rfl hm], ⟨fun _ _ _ _ => rfl, ⟨fun _ _ _ _ => rfl, trivial⟩⟩⟩⟩⟩⟩⟩⟩⟩⟩⟩⟩⟩ rfl ⟨.inr ⟨fun cv => [], (fun _ _ _ _ => trivial), fun cv => Op1.fieldAddr Try.underlying27 rfl (fun w => ⟨0, Try.sizeOf25 w⟩) fapi_Unit_5 (.tmp rfl)⟩, ⟨.inr ⟨fun cv => [], (fun _ _ _ _ => trivial), fun cv => Op1.load ty25 (.tmp rfl)⟩, ⟨.inr ⟨fun cv => [], (fun _ _ _ _ => trivial), fun cv => Op1.move (.tmp rfl)⟩, ⟨.inr ⟨fun cv => [], (fun _ _ _ _ => trivial), fun cv => Op1.idx hv9 Try.underlying25 Try.sizeOf27 (.tmp rfl) (.tmp rfl)⟩, ⟨.inr ⟨fun cv => [], (fun _ _ _ _ => trivial), fun cv => Op1.load ty27 (.tmp rfl)⟩, ⟨.inr ⟨fun cv => [], (fun _ _ _ _ => trivial), fun cv => Op1.load ty23 (.tmp rfl)⟩, ⟨.inr ⟨fun cv => [], (fun _ _ _ _ => trivial), fun cv => Op1.call Try.call15 (ih _ _ _ hv10) ⟨(.tmp rfl), (.tmp rfl), trivial⟩⟩, ⟨.inr ⟨fun cv => [], (fun _ _ _ _ => trivial), fun cv => Op1.move (.tmp rfl)⟩, ⟨.inr ⟨fun cv => [], (fun _ _ _ _ => trivial), fun cv => Op1.extract0 (.tmp rfl)⟩, ⟨.inr ⟨fun cv => [], (fun _ _ _ _ => trivial), fun cv => Op1.extract1 (.tmp rfl)⟩, ⟨.inl rfl, ⟨.inl rfl, ⟨.inr ⟨fun cv => [], (fun _ _ _ _ => trivial), fun cv => Op1.assign (.tmp rfl)⟩, trivial⟩⟩⟩⟩⟩⟩⟩⟩⟩⟩⟩⟩⟩ ⟨⟨_, _, _, [], (fun cv => [(7, (Bx 8 true 27 (tapi_Unit.is zapi_Unit) (bk (cv 0))))]), rfl, rfl, rfl, rfl, fun _ => rfl, fun _ _ => rfl, fun cv => OpR.viaB (OpR.alloc 7 ze27)⟩, ⟨⟨_, _, _, [7], (fun cv => [(7, (Bx 8 true 27 (tapi_Unit.is find.1) (bk (cv 0))))]), rfl, rfl, rfl, rfl, fun _ => rfl, fun _ _ => rfl, fun cv => OpR.viaU (OpR.storeB (b := (bk (cv 0))) 7 Try.sizeOf27 (Cellable.is tapi_Unit find.1) rfl (.tmp rfl) (.tmp rfl))⟩, trivial⟩⟩ (fun cv => ?_)
          refine WN.seq ?_
          refine W.seq ?_
          refine W.region ?_
          refine WL.op rfl (Op1.move (.tmp rfl)) ?_
          refine WL.nil ?_
          refine WN.seq ?_
          refine W.cond (.tmp rfl) (fun hc11 => ?_) (fun hc11 => ?_)
          · have hp12 := hc11
            rw [if_pos hp12] at hm
            refine W.seq ?_
            refine W.region ?_
            refine WL.op rfl (Op1.loadB 7 Try.isAgg27 Try.sizeOf27 rfl (.tmp rfl)) ?_
            refine WL.opU (OpR.storeB (b := b) 4 Try.sizeOf27 (Cellable.is tapi_Unit find.1) rfl (.tmp rfl) (.tmp rfl)) (fun _ => ?_)
            refine WL.op rfl (Op1.assign .bool) ?_
            refine WL.nil ?_
            refine WN.seq ?_
            have hr13 := Option.some.inj hm
            clear hm
            subst hr13
            have hm := hk5
            try dsimp only at hm
            have hr := Option.some.inj hm
            clear hm
            subst hr
            exact W.retQ2 () rfl rfl (ResAt.cell 4 Try.isAgg27 Try.sizeOf27 rfl (.tmp rfl)) (ResAt.tmp (.tmp rfl)) trivial
          · have hp12 := ne_of_false hc11
            rw [if_neg hp12] at hm
            refine W.skip ?_
            refine WN.block ?_
            refine WN.seq ?_
            refine W.region ?_
            refine WL.op rfl (Op1.move (.tmp rfl)) ?_
            refine WL.lenL (s := 16) (.tmp rfl) fun hl14 => ?_
            refine WL.op rfl (Op1.addI1 (.tmp rfl) (.int (inR64.2 (by omega))) hp8 hl14) ?_
            refine WL.op rfl (Op1.assign (.tmp rfl)) ?_
            refine WL.nil ?_
            exact WN.again n6 (i + 1, v) (Nat.lt_succ_self n6) hm ⟨Ent.q rfl, Ent.q rfl, Ent.q rfl, Ent.q rfl, trivial⟩ ⟨rfl, rfl, trivial⟩
        · have hp8 := of_decide_eq_false hc7
          rw [if_neg hp8] at hm
          refine W.exit rfl ?_
          have hr15 := Option.some.inj hm
          clear hm
          subst hr15
          have hm := hk5
          try dsimp only at hm
          refine WN.seq ?_
          refine W.seq ?_
          refine W.region ?_
          refine WL.op rfl (Op1.build (s := tapi_Unit) (x := (⟨zapi_Id, (0 : Int), ([] : Str), ([] : List api_Word), ([] : List api_Word), ([] : List api_Unit)⟩ : api_Unit)) zapi_Unit_f rfl Try.underlying27 (zapi_Unit_sz _ Try.underlying27) ze27 rfl) ?_
          refine WL.opU (OpR.storeB (b := b) 4 Try.sizeOf27 (Cellable.is tapi_Unit (⟨zapi_Id, (0 : Int), ([] : Str), ([] : List api_Word), ([] : List api_Word), ([] : List api_Unit)⟩ : api_Unit)) rfl (.tmp rfl) (.tmp rfl)) (fun _ => ?_)
          refine WL.op rfl (Op1.assign .bool) ?_
          refine WL.nil ?_
          refine WN.seq ?_
          have hr := Option.some.inj hm
          clear hm
          subst hr
          exact W.retQ2 () rfl rfl (ResAt.cell 4 Try.isAgg27 Try.sizeOf27 rfl (.tmp rfl)) (ResAt.tmp (.tmp rfl)) trivial

theorem r06_Parent_spec : ∀ (n : Nat) (u : api_Unit) (id : api_Id) (r : api_Id × Int × Bool), M.r06_Parent n u id = some r → FSpec Try.prog 16 [(tapi_Unit.is u), (tapi_Id.is id)] (Asn.tuple3 (tapi_Id.is r.1) ((tI .i64).is r.2.1) (tB.is r.2.2)) := by
  intro n
  induction n with
  | zero => intro u id r hm; cases hm
  | succ n ih =>
    intro u id r hm
    rw [M.r06_Parent.eq_2] at hm
    refine FSpec.of Try.func16 rfl rfl rfl (fun g0 => ?_)
    refine W.seq ?_
    refine W.region ?_
    refine WL.op rfl (Op1.box (.tmp rfl)) ?_
    refine WL.op rfl (Op1.box (.tmp rfl)) ?_
    refine WL.opR rfl (OpR.alloc 4 ze23) (fun b => ?_)
    refine WL.op rfl (Op1.assign (.int (inR64.2 (by omega)))) ?_
    refine WL.op rfl (Op1.assign .bool) ?_
    refine WL.nil ?_
    refine WN.seq ?_
    refine W.seq ?_
    refine W.seq ?_
    refine W.region ?_
    refine WL.op rfl (Op1.fieldAddr Try.underlying27 rfl (fun w => ⟨2, Try.sizeOf23 w⟩) fapi_Unit_0 (.tmp rfl)) ?_
    refine WL.op rfl (Op1.load ty23 (.tmp rfl)) ?_
    refine WL.op rfl (Op1.load ty23 (.tmp rfl)) ?_
    refine WL.op rfl (Op1.eqSt (D := 2) rfl (by decide) eg23 eq23 (.tmp rfl) (.tmp rfl)) ?_
    refine WL.nil ?_
    refine WN.seq ?_
    refine W.cond (.tmp rfl) (fun hc1 => ?_) (fun hc1 => ?_)
    · have hp2 := of_decide_eq_true hc1
      rw [if_pos hp2] at hm
      refine W.seq ?_
      refine W.region ?_
      refine WL.op rfl (Op1.build (s := tapi_Id) (x := (⟨(0 : Int), (0 : Int), (0 : Int)⟩ : api_Id)) zapi_Id_f rfl Try.underlying23 (zapi_Id_sz _ Try.underlying23) ze23 rfl) ?_
      refine WL.opU (OpR.storeB (b := b) 4 Try.sizeOf23 (Cellable.is tapi_Id (⟨(0 : Int), (0 : Int), (0 : Int)⟩ : api_Id)) rfl (.tmp rfl) (.tmp rfl)) (fun _ => ?_)
      refine WL.op rfl (Op1.assign (.int (inR64.2 (by omega)))) ?_
      refine WL.op rfl (Op1.assign .bool) ?_
      refine WL.nil ?_
      refine WN.seq ?_
      have hr := Option.some.inj hm
      clear hm
      subst hr
      exact W.retQ3 () rfl rfl (ResAt.cell 4 Try.isAgg23 Try.sizeOf23 rfl (.tmp rfl)) (ResAt.tmp (.tmp rfl)) (ResAt.tmp (.tmp rfl)) trivial
    · have hp2 := of_decide_eq_false hc1
      rw [if_neg hp2] at hm
      refine W.skip ?_
      refine WN.seq ?_
      refine W.seq ?_
      refine W.seq ?_
      refine W.region ?_
      refine WL.op rfl (Op1.assign (.int (inR64.2 (by omega)))) ?_
      refine WL.nil ?_
      refine WN.seq ?_
      refine W.block ?_
      obtain ⟨s3, hs4, hk5⟩ := bind_some hm
      clear hm
      refine W.loop (fun m (s : Int × api_Id) => M.r06_Parent_loop1 u id (M.r06_Parent n) m s.1 s.2 = some s3) (fun s => [(7, ((tI .i64).is s.1)), (2, (tapi_Unit.ptr u)), (3, (tapi_Id.ptr id)), (4, (Bp b 0))]) (fun s => [(4, (Bx 3 true 23 (tapi_Id.is s.2) b))]) _ ((0 : Int), zapi_Id) hs4 ⟨Ent.q rfl, Ent.q rfl, Ent.q rfl, Ent.q rfl, trivial⟩ ⟨rfl, rfl, trivial⟩ ?_
      rintro n6 ⟨i, v⟩ hm
      try dsimp only at hm
      change W _ _ _ _ _ _ _ [(7, ((tI .i64).is i)), (2, (tapi_Unit.ptr u)), (3, (tapi_Id.ptr id)), (4, (Bp b 0))] [(4, (Bx 3 true 23 (tapi_Id.is v) b))]
      cases n6 with
      | zero => rw [M.r06_Parent_loop1.eq_1] at hm; cases hm
      | succ n6 =>
        rw [M.r06_Parent_loop1.eq_2] at hm
        refine W.seq ?_
        refine W.seq ?_
        refine W.region ?_
        refine WL.op rfl (Op1.move (.tmp rfl)) ?_
        refine WL.op rfl (Op1.fieldAddr Try.underlying27 rfl (fun w => ⟨0, Try.sizeOf25 w⟩) fapi_Unit_5 (.tmp rfl)) ?_
        refine WL.op rfl (Op1.load ty25 (.tmp rfl)) ?_
        refine WL.op rfl (Op1.lenL Try.underlying25 (.tmp rfl)) ?_
        refine WL.op rfl (Op1.ltI (.tmp rfl) (.tmp rfl)) ?_
        refine WL.nil ?_
        refine WN.seq ?_
        refine W.cond (.tmp rfl) (fun hc7 => ?_) (fun hc7 => ?_)
        · have hp8 := of_decide_eq_true hc7
          rw [if_pos hp8] at hm
          refine W.skip ?_
          refine WN.seq ?_
          refine W.seq ?_
          refine W.block ?_
          refine W.seq ?_
          refine W.seq ?_
          obtain ⟨v1, hv9, hm⟩ := bind_some hm
          refine W.draw [.c ((tL tapi_Unit).ptr u.Kids), .c ((tL tapi_Unit).is u.Kids), .c ((tI .i64).is i), .c (tapi_Unit.ptr v1), .c (tapi_Id.ptr v1.Id), .c (tapi_Id.is v1.Id), .c (tapi_Id.is id), .c (tB.is (decide (v1.Id = id)))] [([], [2]), ([0], []), ([], [7]), ([1, 2], []), ([3], []), ([4], []), ([], [3]), ([5, 6], [])] Try.mixed rfl rfl rfl rfl ⟨.inr (Op1.fieldAddr Try.underlying27 rfl (fun w => ⟨0, Try.sizeOf25 w⟩) fapi_Unit_5 (.tmp rfl)), .inr (Op1.load ty25 (.tmp rfl)), .inr (Op1.move (.tmp rfl)), .inr (Op1.idx hv9 Try.underlying25 Try.sizeOf27 (.tmp rfl) (.tmp rfl)), .inr (Op1.fieldAddr Try.underlying27 rfl (fun w => ⟨2, Try.sizeOf23 w⟩) fapi_Unit_0 (.tmp rfl)), .inr (Op1.load ty23 (.tmp rfl)), .inr (Op1.load ty23 (.tmp rfl)), .inr (Op1.eqSt (D := 2) rfl (by decide) eg23 eq23 (.tmp rfl) (.tmp rfl)), trivial⟩ ?_
          refine WN.seq ?_
          refine W.cond (.tmp rfl) (fun hc10 => ?_) (fun hc10 => ?_)
          · have hp11 := of_decide_eq_true hc10
            rw [if_pos hp11] at hm
            refine W.seq ?_
            refine W.region ?_
            refine WL.op rfl (Op1.fieldAddr Try.underlying27 rfl (fun w => ⟨2, Try.sizeOf23 w⟩) fapi_Unit_0 (.tmp rfl)) ?_
            refine WL.op rfl (Op1.load ty23 (.tmp rfl)) ?_
            refine WL.op rfl (Op1.move (.tmp rfl)) ?_
            refine WL.opU (OpR.storeB (b := b) 4 Try.sizeOf23 (Cellable.is tapi_Id u.Id) rfl (.tmp rfl) (.tmp rfl)) (fun _ => ?_)
            refine WL.op rfl (Op1.assign (.tmp rfl)) ?_
            refine WL.op rfl (Op1.assign .bool) ?_
            refine WL.nil ?_
            refine WN.seq ?_
            have hr12 := Option.some.inj hm
            clear hm
            subst hr12
            have hm := hk5
            try dsimp only at hm
            have hr := Option.some.inj hm
            clear hm
            subst hr
            exact W.retQ3 () rfl rfl (ResAt.cell 4 Try.isAgg23 Try.sizeOf23 rfl (.tmp rfl)) (ResAt.tmp (.tmp rfl)) (ResAt.tmp (.tmp rfl)) trivial
          · have hp11 := of_decide_eq_false hc10
            rw [if_neg hp11] at hm
            refine W.skip ?_
            refine WN.seq ?_
            refine W.seq ?_
            obtain ⟨v2, hv13, hm⟩ := bind_some hm
            obtain ⟨find, hv14, hm⟩ := bind_some hm
            refine W.weakR (res' := [(4, (Bx 3 true 23 (tapi_Id.is v) b))]) ⟨rfl, rfl, trivial⟩ ?_
            refine W.drawM [.c ((tL tapi_Unit).ptr u.Kids), .c ((tL tapi_Unit).is u.Kids), .c ((tI .i64).is i), .c (tapi_Unit.ptr v2), .c (tapi_Unit.is v2), .c (tapi_Id.is id), .c (Asn.tuple2 (tapi_Unit.is find.1) (tB.is find.2)), .c (Asn.tuple2 (tapi_Unit.is find.1) (tB.is find.2)), .c (tapi_Unit.is find.1), .c (tB.is find.2), .f (fun cv => (Bp (bk (cv 0)) 0)), .c Asn.any, .c (tB.is find.2)] [([], [2]), ([0], []), ([], [7]), ([1, 2], []), ([3], []), ([], [3]), ([4, 5], []), ([6], []), ([7], []), ([7], []), ([], []), ([8, 10], []), ([9], [])] [10, 11] [[], [], [], [], [], [], [], [], [], [], [true], [], []] (fun m cv => match m with | 0 => [(4, (Bx 3 true 23 (tapi_Id.is v) b))] | 1 => [(8, (Bx 8 true 27 (tapi_Unit.is zapi_Unit) (bk (cv 0)))), (4, (Bx 3 true 23 (tapi_Id.is v) b))] | _ => [(8, (Bx 8 true 27 (tapi_Unit.is find.1) (bk (cv 0)))), (4, (Bx 3 true 23 (tapi_Id.is v) b))]) (fun _ => none) Try.mixed rfl rfl rfl rfl rfl ⟨fun _ _ _ _ => rfl, ⟨fun _ _ _ _ => rfl, ⟨fun _ _ _ _ => rfl, ⟨fun _ _ _ _ => rfl, ⟨fun _ _ _ _ => rfl, ⟨fun _ _ _ _ => rfl, ⟨fun _ _ _ _ => rfl, ⟨fun _ _ _ _ => rfl, ⟨fun _ _ _ _ => rfl, ⟨fun _ _ _ _ => rfl, ⟨fun m hm c t => by simp only [DA.at, upd_dep (r := [true]) (j := 0) rfl hm], ⟨fun _ _ _ _ => rfl, ⟨fun _ _ _ _ => rfl, trivial⟩⟩⟩⟩⟩⟩⟩⟩⟩⟩⟩⟩⟩ rfl ⟨.inr ⟨fun cv => [], (fun _ _ _ _ => trivial), fun cv => Op1.fieldAddr Try.underlying27 rfl (fun w => ⟨0, Try.sizeOf25 w⟩) fapi_Unit_5 (.tmp rfl)⟩, ⟨.inr ⟨fun cv => [], (fun _ _ _ _ => trivial), fun cv => Op1.load ty25 (.tmp rfl)⟩, ⟨.inr ⟨fun cv => [], (fun _ _ _ _ => trivial), fun cv => Op1.move (.tmp rfl)⟩, ⟨.inr ⟨fun cv => [], (fun _ _ _ _ => trivial), fun cv => Op1.idx hv13 Try.underlying25 Try.sizeOf27 (.tmp rfl) (.tmp rfl)⟩, ⟨.inr ⟨fun cv => [], (fun _ _ _ _ => trivial), fun cv => Op1.load ty27 (.tmp rfl)⟩, ⟨.inr ⟨fun cv => [], (fun _ _ _ _ => trivial), fun cv => Op1.load ty23 (.tmp rfl)⟩, ⟨.inr ⟨fun cv => [], (fun _ _ _ _ => trivial), fun cv => Op1.call Try.call15 (r06_Find_spec _ _ _ _ hv14) ⟨(.tmp rfl), (.tmp rfl), trivial⟩⟩, ⟨.inr ⟨fun cv => [], (fun _ _ _ _ => trivial), fun cv => Op1.move (.tmp rfl)⟩, ⟨.inr ⟨fun cv => [], (fun _ _ _ _ => trivial), fun cv => Op1.extract0 (.tmp rfl)⟩, ⟨.inr ⟨fun cv => [], (fun _ _ _ _ => trivial), fun cv => Op1.extract1 (.tmp rfl)⟩, ⟨.inl rfl, ⟨.inl rfl, ⟨.inr ⟨fun cv => [], (fun _ _ _ _ => trivial), fun cv => Op1.assign (.tmp rfl)⟩, trivial⟩⟩⟩⟩⟩⟩⟩⟩⟩⟩⟩⟩⟩ ⟨⟨_, _, _, [], (fun cv => [(8, (Bx 8 true 27 (tapi_Unit.is zapi_Unit) (bk (cv 0))))]), rfl, rfl, rfl, rfl, fun _ => rfl, fun _ _ => rfl, fun cv => OpR.viaB (OpR.alloc 8 ze27)⟩, ⟨⟨_, _, _, [8], (fun cv => [(8, (Bx 8 true 27 (tapi_Unit.is find.1) (bk (cv 0))))]), rfl, rfl, rfl, rfl, fun _ => rfl, fun _ _ => rfl, fun cv => OpR.viaU (OpR.storeB (b := (bk (cv 0))) 8 Try.sizeOf27 (Cellable.is tapi_Unit find.1) rfl (.tmp rfl) (.tmp rfl))⟩, trivial⟩⟩ (fun cv => ?_)
            refine WN.seq ?_
            refine W.seq ?_
            refine W.region ?_
            refine WL.op rfl (Op1.move (.tmp rfl)) ?_
            refine WL.nil ?_
            refine WN.seq ?_
            refine W.cond (.tmp rfl) (fun hc15 => ?_) (fun hc15 => ?_)
            · have hp16 := hc15
              rw [if_pos hp16] at hm
              refine W.seq ?_
              obtain ⟨v3, hv17, hm⟩ := bind_some hm
              obtain ⟨parent, hv18, hm⟩ := bind_some hm
              refine W.weakR (res' := [(4, (Bx 3 true 23 (tapi_Id.is v) b)), (8, (Bx 8 true 27 (tapi_Unit.is find.1) (bk (cv 0))))]) ⟨rfl, rfl, ⟨rfl, rfl, trivial⟩⟩ ?_
              refine W.drawM [.c ((tL tapi_Unit).ptr u.Kids), .c ((tL tapi_Unit).is u.Kids), .c ((tI .i64).is i), .c (tapi_Unit.ptr v3), .c (tapi_Unit.is v3), .c (tapi_Id.is id), .c (Asn.tuple3 (tapi_Id.is parent.1) ((tI .i64).is parent.2.1) (tB.is parent.2.2)), .c (tapi_Id.is parent.1), .c ((tI .i64).is parent.2.1), .c (tB.is parent.2.2), .c Asn.any, .c ((tI .i64).is parent.2.1), .c (tB.is parent.2.2)] [([], [2]), ([0], []), ([], [7]), ([1, 2], []), ([3], []), ([], [3]), ([4, 5], []), ([6], []), ([6], []), ([6], []), ([7], [4]), ([8], []), ([9], [])] [10] [[], [], [], [], [], [], [], [], [], [], [], [], []] (fun m cv1 => match m with | 0 => [(4, (Bx 3 true 23 (tapi_Id.is v) b)), (8, (Bx 8 true 27 (tapi_Unit.is find.1) (bk (cv 0))))] | _ => [(4, (Bx 3 true 23 (tapi_Id.is parent.1) b)), (8, (Bx 8 true 27 (tapi_Unit.is find.1) (bk (cv 0))))]) (fun _ => none) Try.mixed rfl rfl rfl rfl rfl ⟨fun _ _ _ _ => rfl, ⟨fun _ _ _ _ => rfl, ⟨fun _ _ _ _ => rfl, ⟨fun _ _ _ _ => rfl, ⟨fun _ _ _ _ => rfl, ⟨fun _ _ _ _ => rfl, ⟨fun _ _ _ _ => rfl, ⟨fun _ _ _ _ => rfl, ⟨fun _ _ _ _ => rfl, ⟨fun _ _ _ _ => rfl, ⟨fun _ _ _ _ => rfl, ⟨fun _ _ _ _ => rfl, ⟨fun _ _ _ _ => rfl, trivial⟩⟩⟩⟩⟩⟩⟩⟩⟩⟩⟩⟩⟩ rfl ⟨.inr ⟨fun cv1 => [], (fun _ _ _ _ => trivial), fun cv1 => Op1.fieldAddr Try.underlying27 rfl (fun w => ⟨0, Try.sizeOf25 w⟩) fapi_Unit_5 (.tmp rfl)⟩, ⟨.inr ⟨fun cv1 => [], (fun _ _ _ _ => trivial), fun cv1 => Op1.load ty25 (.tmp rfl)⟩, ⟨.inr ⟨fun cv1 => [], (fun _ _ _ _ => trivial), fun cv1 => Op1.move (.tmp rfl)⟩, ⟨.inr ⟨fun cv1 => [], (fun _ _ _ _ => trivial), fun cv1 => Op1.idx hv17 Try.underlying25 Try.sizeOf27 (.tmp rfl) (.tmp rfl)⟩, ⟨.inr ⟨fun cv1 => [], (fun _ _ _ _ => trivial), fun cv1 => Op1.load ty27 (.tmp rfl)⟩, ⟨.inr ⟨fun cv1 => [], (fun _ _ _ _ => trivial), fun cv1 => Op1.load ty23 (.tmp rfl)⟩, ⟨.inr ⟨fun cv1 => [], (fun _ _ _ _ => trivial), fun cv1 => Op1.call Try.call16 (ih _ _ _ hv18) ⟨(.tmp rfl), (.tmp rfl), trivial⟩⟩, ⟨.inr ⟨fun cv1 => [], (fun _ _ _ _ => trivial), fun cv1 => Op1.extract30 (.tmp rfl)⟩, ⟨.inr ⟨fun cv1 => [], (fun _ _ _ _ => trivial), fun cv1 => Op1.extract31 (.tmp rfl)⟩, ⟨.inr ⟨fun cv1 => [], (fun _ _ _ _ => trivial), fun cv1 => Op1.extract32 (.tmp rfl)⟩, ⟨.inl rfl, ⟨.inr ⟨fun cv1 => [], (fun _ _ _ _ => trivial), fun cv1 => Op1.assign (.tmp rfl)⟩, ⟨.inr ⟨fun cv1 => [], (fun _ _ _ _ => trivial), fun cv1 => Op1.assign (.tmp rfl)⟩, trivial⟩⟩⟩⟩⟩⟩⟩⟩⟩⟩⟩⟩⟩ ⟨⟨_, _, _, [4], (fun cv1 => [(4, (Bx 3 true 23 (tapi_Id.is parent.1) b))]), rfl, rfl, rfl, rfl, fun _ => rfl, fun _ _ => rfl, fun cv1 => OpR.viaU (OpR.storeB (b := b) 4 Try.sizeOf23 (Cellable.is tapi_Id parent.1) rfl (.tmp rfl) (.tmp rfl))⟩, trivial⟩ (fun cv1 => ?_)
              refine WN.seq ?_
              have hr19 := Option.some.inj hm
              clear hm
              subst hr19
              have hm := hk5
              try dsimp only at hm
              have hr := Option.some.inj hm
              clear hm
              subst hr
              exact W.retQ3 () rfl rfl (ResAt.cell 4 Try.isAgg23 Try.sizeOf23 rfl (.tmp rfl)) (ResAt.tmp (.tmp rfl)) (ResAt.tmp (.tmp rfl)) trivial
            · have hp16 := ne_of_false hc15
              rw [if_neg hp16] at hm
              refine W.skip ?_
              refine WN.block ?_
              refine WN.seq ?_
              refine W.region ?_
              refine WL.op rfl (Op1.move (.tmp rfl)) ?_
              refine WL.lenL (s := 17) (.tmp rfl) fun hl20 => ?_
              refine WL.op rfl (Op1.addI1 (.tmp rfl) (.int (inR64.2 (by omega))) hp8 hl20) ?_
              refine WL.op rfl (Op1.assign (.tmp rfl)) ?_
              refine WL.nil ?_
              exact WN.again n6 (i + 1, v) (Nat.lt_succ_self n6) hm ⟨Ent.q rfl, Ent.q rfl, Ent.q rfl, Ent.q rfl, trivial⟩ ⟨rfl, rfl, trivial⟩
        · have hp8 := of_decide_eq_false hc7
          rw [if_neg hp8] at hm
          refine W.exit rfl ?_
          have hr21 := Option.some.inj hm
          clear hm
          subst hr21
          have hm := hk5
          try dsimp only at hm
          refine WN.seq ?_
          refine W.seq ?_
          refine W.region ?_
          refine WL.op rfl (Op1.build (s := tapi_Id) (x := (⟨(0 : Int), (0 : Int), (0 : Int)⟩ : api_Id)) zapi_Id_f rfl Try.underlying23 (zapi_Id_sz _ Try.underlying23) ze23 rfl) ?_
          refine WL.opU (OpR.storeB (b := b) 4 Try.sizeOf23 (Cellable.is tapi_Id (⟨(0 : Int), (0 : Int), (0 : Int)⟩ : api_Id)) rfl (.tmp rfl) (.tmp rfl)) (fun _ => ?_)
          refine WL.op rfl (Op1.assign (.int (inR64.2 (by omega)))) ?_
          refine WL.op rfl (Op1.assign .bool) ?_
          refine WL.nil ?_
          refine WN.seq ?_
          have hr := Option.some.inj hm
          clear hm
          subst hr
          exact W.retQ3 () rfl rfl (ResAt.cell 4 Try.isAgg23 Try.sizeOf23 rfl (.tmp rfl)) (ResAt.tmp (.tmp rfl)) (ResAt.tmp (.tmp rfl)) trivial

theorem r21_Where_spec (n : Nat) (u : api_Unit) (p : List api_Step) (where0_ : Int) (r : api_Id × Int × Int) (hm : M.r21_Where n u p where0_ = some r) : FSpec Try.prog 12 [(tapi_Unit.is u), ((tL tapi_Step).is p), ((tI .i64).is where0_)] (Asn.tuple3 (tapi_Id.is r.1) ((tI .i64).is r.2.1) ((tI .i64).is r.2.2)) := by
  unfold M.r21_Where at hm
  refine FSpec.of Try.func12 rfl rfl rfl (fun g0 => ?_)
  refine W.seq ?_
  refine W.region ?_
  refine WL.op rfl (Op1.box (.tmp rfl)) ?_
  refine WL.opR rfl (OpR.alloc 6 ze23) (fun b => ?_)
  refine WL.op rfl (Op1.assign (.int (inR64.2 (by omega)))) ?_
  refine WL.op rfl (Op1.assign (.int (inR64.2 (by omega)))) ?_
  refine WL.nil ?_
  refine WN.seq ?_
  refine W.seq ?_
  obtain ⟨s1, hs2, hk3⟩ := bind_some hm
  clear hm
  refine W.join (fun s : Bool => s = s1) (fun s => [(21, (tB.is s)), (1, ((tL tapi_Step).is p)), (2, ((tI .i64).is where0_)), (3, (tapi_Unit.ptr u)), (6, (Bp b 0))]) (fun s => [(6, (Bx 3 true 23 (tapi_Id.is zapi_Id) b))]) ?_ ?_
  · rintro v hj22
    try dsimp only at hj22
    subst hj22
    have hm := hk3
    clear hk3
    try dsimp only at hm
    change W _ _ _ _ _ _ _ [(21, (tB.is v)), (1, ((tL tapi_Step).is p)), (2, ((tI .i64).is where0_)), (3, (tapi_Unit.ptr u)), (6, (Bp b 0))] [(6, (Bx 3 true 23 (tapi_Id.is zapi_Id) b))]
    refine W.cond (.tmp rfl) (fun hc6 => ?_) (fun hc6 => ?_)
    · have hp7 := hc6
      rw [if_pos hp7] at hm
      refine W.seq ?_
      refine W.region ?_
      refine WL.op rfl (Op1.build (s := tapi_Id) (x := (⟨(0 : Int), (0 : Int), (0 : Int)⟩ : api_Id)) zapi_Id_f rfl Try.underlying23 (zapi_Id_sz _ Try.underlying23) ze23 rfl) ?_
      refine WL.opU (OpR.storeB (b := b) 6 Try.sizeOf23 (Cellable.is tapi_Id (⟨(0 : Int), (0 : Int), (0 : Int)⟩ : api_Id)) rfl (.tmp rfl) (.tmp rfl)) (fun _ => ?_)
      refine WL.op rfl (Op1.assign (.int (inR64.2 (by omega)))) ?_
      refine WL.op rfl (Op1.assign (.int (inR64.2 (by omega)))) ?_
      refine WL.nil ?_
      refine WN.seq ?_
      have hr := Option.some.inj hm
      clear hm
      subst hr
      exact W.retQ3 () rfl rfl (ResAt.cell 6 Try.isAgg23 Try.sizeOf23 rfl (.tmp rfl)) (ResAt.tmp (.tmp rfl)) (ResAt.tmp (.tmp rfl)) trivial
    · have hp7 := ne_of_false hc6
      rw [if_neg hp7] at hm
      refine W.skip ?_
      refine WN.seq ?_
      refine W.seq ?_
      refine W.region ?_
      refine WL.op rfl (Op1.load ty27 (.tmp rfl)) ?_
      refine WL.op rfl (Op1.move (.tmp rfl)) ?_
      obtain ⟨one, hv8, hm⟩ := bind_some hm
      refine WL.op rfl (Op1.call Try.call18 (r07_One_spec _ _ _ _ hv8) ⟨(.tmp rfl), (.tmp rfl), trivial⟩) ?_
      refine WL.op rfl (Op1.move (.tmp rfl)) ?_
      refine WL.op rfl (Op1.extract0 (.tmp rfl)) ?_
      refine WL.op rfl (Op1.extract1 (.tmp rfl)) ?_
      refine WL.opR rfl (OpR.alloc 9 ze23) (fun b1 => ?_)
      refine WL.opU (OpR.storeB (b := b1) 9 Try.sizeOf23 (Cellable.is tapi_Id one.1) rfl (.tmp rfl) (.tmp rfl)) (fun _ => ?_)
      refine WL.seal (t := tapi_Id) (u := one.1) 9 9 rfl rfl ?_
      refine WL.op rfl (Op1.assign (.tmp rfl)) ?_
      refine WL.nil ?_
      refine WN.seq ?_
      refine W.seq ?_
      refine W.seq ?_
      refine W.region ?_
      refine WL.op rfl (Op1.move (.tmp rfl)) ?_
      refine WL.op rfl (Op1.neI (.tmp rfl) (.int (inR64.2 (by omega)))) ?_
      refine WL.nil ?_
      refine WN.seq ?_
      refine W.cond (.tmp rfl) (fun hc9 => ?_) (fun hc9 => ?_)
      · have hp10 := of_decide_eq_true hc9
        rw [if_pos hp10] at hm
        refine W.seq ?_
        refine W.region ?_
        refine WL.op rfl (Op1.build (s := tapi_Id) (x := (⟨(0 : Int), (0 : Int), (0 : Int)⟩ : api_Id)) zapi_Id_f rfl Try.underlying23 (zapi_Id_sz _ Try.underlying23) ze23 rfl) ?_
        refine WL.op rfl (Op1.move (.tmp rfl)) ?_
        refine WL.opU (OpR.storeB (b := b) 6 Try.sizeOf23 (Cellable.is tapi_Id (⟨(0 : Int), (0 : Int), (0 : Int)⟩ : api_Id)) rfl (.tmp rfl) (.tmp rfl)) (fun _ => ?_)
        refine WL.op rfl (Op1.assign (.int (inR64.2 (by omega)))) ?_
        refine WL.op rfl (Op1.assign (.tmp rfl)) ?_
        refine WL.nil ?_
        refine WN.seq ?_
        have hr := Option.some.inj hm
        clear hm
        subst hr
        exact W.retQ3 () rfl rfl (ResAt.cell 6 Try.isAgg23 Try.sizeOf23 rfl (.tmp rfl)) (ResAt.tmp (.tmp rfl)) (ResAt.tmp (.tmp rfl)) trivial
      · have hp10 := of_decide_eq_false hc9
        rw [if_neg hp10] at hm
        refine W.skip ?_
        refine WN.seq ?_
        refine W.seq ?_
        refine W.region ?_
        refine WL.op rfl (Op1.load ty27 (.tmp rfl)) ?_
        refine WL.op rfl (Op1.load ty23 (.tmp rfl)) ?_
        obtain ⟨find, hv11, hm⟩ := bind_some hm
        refine WL.op rfl (Op1.call Try.call15 (r06_Find_spec _ _ _ _ hv11) ⟨(.tmp rfl), (.tmp rfl), trivial⟩) ?_
        refine WL.op rfl (Op1.move (.tmp rfl)) ?_
        refine WL.op rfl (Op1.extract0 (.tmp rfl)) ?_
        refine WL.op rfl (Op1.extract1 (.tmp rfl)) ?_
        refine WL.opR rfl (OpR.alloc 11 ze27) (fun b2 => ?_)
        refine WL.opU (OpR.storeB (b := b2) 11 Try.sizeOf27 (Cellable.is tapi_Unit find.1) rfl (.tmp rfl) (.tmp rfl)) (fun _ => ?_)
        refine WL.seal (t := tapi_Unit) (u := find.1) 11 11 rfl rfl ?_
        refine WL.op rfl (Op1.assign (.tmp rfl)) ?_
        refine WL.nil ?_
        refine WN.seq ?_
        refine W.seq ?_
        refine W.seq ?_
        refine W.region ?_
        refine WL.op rfl (Op1.move (.tmp rfl)) ?_
        refine WL.op rfl (Op1.eqI (.tmp rfl) (.int (inR64.2 (by omega)))) ?_
        refine WL.nil ?_
        refine WN.seq ?_
        refine W.cond (.tmp rfl) (fun hc12 => ?_) (fun hc12 => ?_)
        · have hp13 := of_decide_eq_true hc12
          rw [if_pos hp13] at hm
          refine W.seq ?_
          refine W.region ?_
          refine WL.op rfl (Op1.load ty23 (.tmp rfl)) ?_
          refine WL.opU (OpR.storeB (b := b) 6 Try.sizeOf23 (Cellable.is tapi_Id one.1) rfl (.tmp rfl) (.tmp rfl)) (fun _ => ?_)
          refine WL.op rfl (Op1.assign (.int (inR64.2 (by omega)))) ?_
          refine WL.op rfl (Op1.assign (.int (inR64.2 (by omega)))) ?_
          refine WL.nil ?_
          refine WN.seq ?_
          have hr := Option.some.inj hm
          clear hm
          subst hr
          exact W.retQ3 () rfl rfl (ResAt.cell 6 Try.isAgg23 Try.sizeOf23 rfl (.tmp rfl)) (ResAt.tmp (.tmp rfl)) (ResAt.tmp (.tmp rfl)) trivial
        · have hp13 := of_decide_eq_false hc12
          rw [if_neg hp13] at hm
          refine W.skip ?_
          refine WN.seq ?_
          refine W.seq ?_
          refine W.seq ?_
          refine W.region ?_
          refine WL.op rfl (Op1.move (.tmp rfl)) ?_
          refine WL.op rfl (Op1.eqI (.tmp rfl) (.int (inR64.2 (by omega)))) ?_
          refine WL.nil ?_
          refine WN.seq ?_
          refine W.cond (.tmp rfl) (fun hc14 => ?_) (fun hc14 => ?_)
          · have hp15 := of_decide_eq_true hc14
            rw [if_pos hp15] at hm
            refine W.seq ?_
            refine W.weakR (res' := [(6, (Bx 3 true 23 (tapi_Id.is zapi_Id) b))]) ⟨rfl, rfl, trivial⟩ ?_
            refine W.drawM [.c (tapi_Id.is one.1), .c ((tL tapi_Unit).ptr find.1.Kids), .c ((tL tapi_Unit).is find.1.Kids), .c ((tI .i64).is (find.1.Kids.length : Int)), .c Asn.any, .c ((tI .i64).is (find.1.Kids.length : Int)), .c ((tI .i64).is (0 : Int))] [([], [9]), ([], [11]), ([1], []), ([2], []), ([0], [6]), ([3], []), ([], [])] [4] [[], [], [], [], [], [], []] (fun m cv => match m with | 0 => [(6, (Bx 3 true 23 (tapi_Id.is zapi_Id) b))] | _ => [(6, (Bx 3 true 23 (tapi_Id.is one.1) b))]) (fun _ => none) Try.mixed rfl rfl rfl rfl rfl ⟨fun _ _ _ _ => rfl, ⟨fun _ _ _ _ => rfl, ⟨fun _ _ _ _ => rfl, ⟨fun _ _ _ _ => rfl, ⟨fun _ _ _ _ => rfl, ⟨fun _ _ _ _ => rfl, ⟨fun _ _ _ _ => rfl, trivial⟩⟩⟩⟩⟩⟩⟩ rfl ⟨.inr ⟨fun cv => [], (fun _ _ _ _ => trivial), fun cv => Op1.load ty23 (.tmp rfl)⟩, ⟨.inr ⟨fun cv => [], (fun _ _ _ _ => trivial), fun cv => Op1.fieldAddr Try.underlying27 rfl (fun w => ⟨0, Try.sizeOf25 w⟩) fapi_Unit_5 (.tmp rfl)⟩, ⟨.inr ⟨fun cv => [], (fun _ _ _ _ => trivial), fun cv => Op1.load ty25 (.tmp rfl)⟩, ⟨.inr ⟨fun cv => [], (fun _ _ _ _ => trivial), fun cv => Op1.lenL Try.underlying25 (.tmp rfl)⟩, ⟨.inl rfl, ⟨.inr ⟨fun cv => [], (fun _ _ _ _ => trivial), fun cv => Op1.assign (.tmp rfl)⟩, ⟨.inr ⟨fun cv => [], (fun _ _ _ _ => trivial), fun cv => Op1.assign (.int (inR64.2 (by omega)))⟩, trivial⟩⟩⟩⟩⟩⟩⟩ ⟨⟨_, _, _, [6], (fun cv => [(6, (Bx 3 true 23 (tapi_Id.is one.1) b))]), rfl, rfl, rfl, rfl, fun _ => rfl, fun _ _ => rfl, fun cv => OpR.viaU (OpR.storeB (b := b) 6 Try.sizeOf23 (Cellable.is tapi_Id one.1) rfl (.tmp rfl) (.tmp rfl))⟩, trivial⟩ (fun cv => ?_)
            refine WN.seq ?_
            have hr := Option.some.inj hm
            clear hm
            subst hr
            exact W.retQ3 () rfl rfl (ResAt.cell 6 Try.isAgg23 Try.sizeOf23 rfl (.tmp rfl)) (ResAt.tmp (.tmp rfl)) (ResAt.tmp (.tmp rfl)) trivial
          · have hp15 := of_decide_eq_false hc14
            rw [if_neg hp15] at hm
            refine W.skip ?_
            refine WN.seq ?_
            refine W.seq ?_
            refine W.seq ?_
            refine W.region ?_
            refine WL.op rfl (Op1.load ty23 (.tmp rfl)) ?_
            refine WL.op rfl (Op1.fieldAddr Try.underlying27 rfl (fun w => ⟨2, Try.sizeOf23 w⟩) fapi_Unit_0 (.tmp rfl)) ?_
            refine WL.op rfl (Op1.load ty23 (.tmp rfl)) ?_
            refine WL.op rfl (Op1.eqSt (D := 2) rfl (by decide) eg23 eq23 (.tmp rfl) (.tmp rfl)) ?_
            refine WL.nil ?_
            refine WN.seq ?_
            refine W.cond (.tmp rfl) (fun hc16 => ?_) (fun hc16 => ?_)
            · have hp17 := of_decide_eq_true hc16
              rw [if_pos hp17] at hm
              refine W.seq ?_
              refine W.region ?_
              refine WL.op rfl (Op1.build (s := tapi_Id) (x := (⟨(0 : Int), (0 : Int), (0 : Int)⟩ : api_Id)) zapi_Id_f rfl Try.underlying23 (zapi_Id_sz _ Try.underlying23) ze23 rfl) ?_
              refine WL.opU (OpR.storeB (b := b) 6 Try.sizeOf23 (Cellable.is tapi_Id (⟨(0 : Int), (0 : Int), (0 : Int)⟩ : api_Id)) rfl (.tmp rfl) (.tmp rfl)) (fun _ => ?_)
              refine WL.op rfl (Op1.assign (.int (inR64.2 (by omega)))) ?_
              refine WL.op rfl (Op1.assign (.int (inR64.2 (by omega)))) ?_
              refine WL.nil ?_
              refine WN.seq ?_
              have hr := Option.some.inj hm
              clear hm
              subst hr
              exact W.retQ3 () rfl rfl (ResAt.cell 6 Try.isAgg23 Try.sizeOf23 rfl (.tmp rfl)) (ResAt.tmp (.tmp rfl)) (ResAt.tmp (.tmp rfl)) trivial
            · have hp17 := of_decide_eq_false hc16
              rw [if_neg hp17] at hm
              refine W.skip ?_
              refine WN.seq ?_
              refine W.seq ?_
              refine W.region ?_
              refine WL.op rfl (Op1.load ty27 (.tmp rfl)) ?_
              refine WL.op rfl (Op1.load ty23 (.tmp rfl)) ?_
              obtain ⟨parent, hv18, hm⟩ := bind_some hm
              refine WL.op rfl (Op1.call Try.call16 (r06_Parent_spec _ _ _ _ hv18) ⟨(.tmp rfl), (.tmp rfl), trivial⟩) ?_
              refine WL.op rfl (Op1.move (.tmp rfl)) ?_
              refine WL.op rfl (Op1.extract30 (.tmp rfl)) ?_
              refine WL.op rfl (Op1.extract31 (.tmp rfl)) ?_
              refine WL.op rfl (Op1.extract32 (.tmp rfl)) ?_
              refine WL.opR rfl (OpR.alloc 13 ze23) (fun b3 => ?_)
              refine WL.opU (OpR.storeB (b := b3) 13 Try.sizeOf23 (Cellable.is tapi_Id parent.1) rfl (.tmp rfl) (.tmp rfl)) (fun _ => ?_)
              refine WL.seal (t := tapi_Id) (u := parent.1) 13 13 rfl rfl ?_
              refine WL.op rfl (Op1.assign (.tmp rfl)) ?_
              refine WL.op rfl (Op1.assign (.tmp rfl)) ?_
              refine WL.nil ?_
              refine WN.seq ?_
              refine W.seq ?_
              refine W.seq ?_
              refine W.region ?_
              refine WL.op rfl (Op1.move (.tmp rfl)) ?_
              refine WL.op rfl (Op1.eqI (.tmp rfl) (.int (inR64.2 (by omega)))) ?_
              refine WL.nil ?_
              refine WN.seq ?_
              refine W.cond (.tmp rfl) (fun hc19 => ?_) (fun hc19 => ?_)
              · have hp20 := of_decide_eq_true hc19
                rw [if_pos hp20] at hm
                refine W.region ?_
                refine WL.op rfl (Op1.move (.tmp rfl)) ?_
                obtain ⟨v1, hv21, hm⟩ := bind_some hm
                refine WL.op rfl (Op1.addC hv21 (.tmp rfl) (.int (inR64.2 (by omega)))) ?_
                refine WL.op rfl (Op1.assign (.tmp rfl)) ?_
                refine WL.nil ?_
                refine WN.seq ?_
                refine W.seq ?_
                refine W.region ?_
                refine WL.op rfl (Op1.load ty23 (.tmp rfl)) ?_
                refine WL.op rfl (Op1.move (.tmp rfl)) ?_
                refine WL.opU (OpR.storeB (b := b) 6 Try.sizeOf23 (Cellable.is tapi_Id parent.1) rfl (.tmp rfl) (.tmp rfl)) (fun _ => ?_)
                refine WL.op rfl (Op1.assign (.tmp rfl)) ?_
                refine WL.op rfl (Op1.assign (.int (inR64.2 (by omega)))) ?_
                refine WL.nil ?_
                refine WN.seq ?_
                have hr := Option.some.inj hm
                clear hm
                subst hr
                exact W.retQ3 () rfl rfl (ResAt.cell 6 Try.isAgg23 Try.sizeOf23 rfl (.tmp rfl)) (ResAt.tmp (.tmp rfl)) (ResAt.tmp (.tmp rfl)) trivial
              · have hp20 := of_decide_eq_false hc19
                rw [if_neg hp20] at hm
                refine W.skip ?_
                refine WN.seq ?_
                refine W.seq ?_
                refine W.region ?_
                refine WL.op rfl (Op1.load ty23 (.tmp rfl)) ?_
                refine WL.op rfl (Op1.move (.tmp rfl)) ?_
                refine WL.opU (OpR.storeB (b := b) 6 Try.sizeOf23 (Cellable.is tapi_Id parent.1) rfl (.tmp rfl) (.tmp rfl)) (fun _ => ?_)
                refine WL.op rfl (Op1.assign (.tmp rfl)) ?_
                refine WL.op rfl (Op1.assign (.int (inR64.2 (by omega)))) ?_
                refine WL.nil ?_
                refine WN.seq ?_
                have hr := Option.some.inj hm
                clear hm
                subst hr
                exact W.retQ3 () rfl rfl (ResAt.cell 6 Try.isAgg23 Try.sizeOf23 rfl (.tmp rfl)) (ResAt.tmp (.tmp rfl)) (ResAt.tmp (.tmp rfl)) trivial
  · have hm := hs2
    clear hs2
    refine W.region ?_
    refine WL.op rfl (Op1.move (.tmp rfl)) ?_
    refine WL.op rfl (Op1.ltI (.tmp rfl) (.int (inR64.2 (by omega)))) ?_
    refine WL.op rfl (Op1.move (.tmp rfl)) ?_
    rcases bcases (decide (where0_ < (0 : Int))) with hb4 | hb4
    · have hp5 := of_decide_eq_true hb4
      rw [if_pos hp5] at hm
      refine WL.pass rfl rfl rfl rfl hb4 rfl rfl ?_
      refine WL.pass rfl rfl rfl rfl hb4 rfl rfl ?_
      refine WL.op rfl (Op1.pickT (.tmp rfl) hb4 .bool) ?_
      refine WL.nil ?_
      exact WN.meet true (Option.some.inj hm) ⟨Ent.q rfl, Ent.q rfl, Ent.q rfl, Ent.q rfl, Ent.q rfl, trivial⟩ ⟨rfl, rfl, trivial⟩
    · have hp5 := of_decide_eq_false hb4
      rw [if_neg hp5] at hm
      refine WL.run rfl rfl rfl rfl hb4 rfl rfl (Op1.move (.tmp rfl)) ?_
      refine WL.run rfl rfl rfl rfl hb4 rfl rfl (Op1.gtI (.tmp rfl) (.int (inR64.2 (by omega)))) ?_
      refine WL.op rfl (Op1.pickF (.tmp rfl) hb4 (.tmp rfl)) ?_
      refine WL.nil ?_
      exact WN.meet (decide ((3 : Int) < where0_)) (Option.some.inj hm) ⟨Ent.q rfl, Ent.q rfl, Ent.q rfl, Ent.q rfl, Ent.q rfl, trivial⟩ ⟨rfl, rfl, trivial⟩

theorem law21_TargetInsertionPoint_spec (n : Nat) (u : api_Unit) (p : List api_Step) (where0_ : Int) (r : Bool) (hm : M.law21_TargetInsertionPoint n u p where0_ = some r) : FSpec Try.prog 3 [(tapi_Unit.is u), ((tL tapi_Step).is p), ((tI .i64).is where0_)] (tB.is r) := by
  unfold M.law21_TargetInsertionPoint at hm
  refine FSpec.of Try.func3 rfl rfl rfl (fun g0 => ?_)
  refine W.seq ?_
  refine W.region ?_
  refine WL.op rfl (Op1.box (.tmp rfl)) ?_
  refine WL.op rfl (Op1.assign .bool) ?_
  refine WL.nil ?_
  refine WN.seq ?_
  refine W.seq ?_
  refine W.seq ?_
  refine W.region ?_
  obtain ⟨awake, hv1, hm⟩ := bind_some hm
  refine WL.op rfl (Op1.call Try.call8 (law21_awake_spec _ _ hv1) trivial) ?_
  refine WL.op rfl (Op1.notB (.tmp rfl)) ?_
  refine WL.nil ?_
  refine WN.seq ?_
  refine W.cond (.tmp rfl) (fun hc2 => ?_) (fun hc2 => ?_)
  · have hp3 := not_pos hc2
    rw [if_pos hp3] at hm
    refine W.seq ?_
    refine W.region ?_
    refine WL.op rfl (Op1.assign .bool) ?_
    refine WL.nil ?_
    refine WN.seq ?_
    have hr := Option.some.inj hm
    clear hm
    subst hr
    exact W.ret1 () rfl (.tmp rfl) trivial
  · have hp3 := not_neg hc2
    rw [if_neg hp3] at hm
    refine W.skip ?_
    refine WN.seq ?_
    refine W.seq ?_
    obtain ⟨s4, hs5, hk6⟩ := bind_some hm
    clear hm
    refine W.join (fun s : Bool => s = s4) (fun s => [(23, (tB.is s)), (1, ((tL tapi_Step).is p)), (2, ((tI .i64).is where0_)), (3, (tapi_Unit.ptr u))]) (fun s => []) ?_ ?_
    · rintro v hj19
      try dsimp only at hj19
      subst hj19
      have hm := hk6
      clear hk6
      try dsimp only at hm
      change W _ _ _ _ _ _ _ [(23, (tB.is v)), (1, ((tL tapi_Step).is p)), (2, ((tI .i64).is where0_)), (3, (tapi_Unit.ptr u))] []
      refine W.cond (.tmp rfl) (fun hc11 => ?_) (fun hc11 => ?_)
      · have hp12 := hc11
        rw [if_pos hp12] at hm
        refine W.seq ?_
        refine W.region ?_
        refine WL.op rfl (Op1.assign .bool) ?_
        refine WL.nil ?_
        refine WN.seq ?_
        have hr := Option.some.inj hm
        clear hm
        subst hr
        exact W.ret1 () rfl (.tmp rfl) trivial
      · have hp12 := ne_of_false hc11
        rw [if_neg hp12] at hm
        refine W.skip ?_
        refine WN.seq ?_
        refine W.seq ?_
        refine W.region ?_
        refine WL.op rfl (Op1.load ty27 (.tmp rfl)) ?_
        refine WL.op rfl (Op1.move (.tmp rfl)) ?_
        refine WL.op rfl (Op1.move (.tmp rfl)) ?_
        obtain ⟨insert, hv13, hm⟩ := bind_some hm
        refine WL.op rfl (Op1.call Try.call11 (target_InsertionPoint_spec _ _ _ _ _ hv13) ⟨(.tmp rfl), (.tmp rfl), (.tmp rfl), trivial⟩) ?_
        refine WL.op rfl (Op1.move (.tmp rfl)) ?_
        refine WL.op rfl (Op1.extract30 (.tmp rfl)) ?_
        refine WL.op rfl (Op1.extract31 (.tmp rfl)) ?_
        refine WL.op rfl (Op1.extract32 (.tmp rfl)) ?_
        refine WL.opR rfl (OpR.alloc 7 ze23) (fun b => ?_)
        refine WL.opU (OpR.storeB (b := b) 7 Try.sizeOf23 (Cellable.is tapi_Id insert.1) rfl (.tmp rfl) (.tmp rfl)) (fun _ => ?_)
        refine WL.seal (t := tapi_Id) (u := insert.1) 7 7 rfl rfl ?_
        refine WL.op rfl (Op1.assign (.tmp rfl)) ?_
        refine WL.op rfl (Op1.assign (.tmp rfl)) ?_
        refine WL.nil ?_
        refine WN.seq ?_
        refine W.seq ?_
        refine W.region ?_
        refine WL.op rfl (Op1.load ty27 (.tmp rfl)) ?_
        refine WL.op rfl (Op1.move (.tmp rfl)) ?_
        refine WL.op rfl (Op1.move (.tmp rfl)) ?_
        obtain ⟨where0_1, hv14, hm⟩ := bind_some hm
        refine WL.op rfl (Op1.call Try.call12 (r21_Where_spec _ _ _ _ _ hv14) ⟨(.tmp rfl), (.tmp rfl), (.tmp rfl), trivial⟩) ?_
        refine WL.op rfl (Op1.move (.tmp rfl)) ?_
        refine WL.op rfl (Op1.extract30 (.tmp rfl)) ?_
        refine WL.op rfl (Op1.extract31 (.tmp rfl)) ?_
        refine WL.op rfl (Op1.extract32 (.tmp rfl)) ?_
        refine WL.opR rfl (OpR.alloc 10 ze23) (fun b1 => ?_)
        refine WL.opU (OpR.storeB (b := b1) 10 Try.sizeOf23 (Cellable.is tapi_Id where0_1.1) rfl (.tmp rfl) (.tmp rfl)) (fun _ => ?_)
        refine WL.seal (t := tapi_Id) (u := where0_1.1) 10 10 rfl rfl ?_
        refine WL.op rfl (Op1.assign (.tmp rfl)) ?_
        refine WL.op rfl (Op1.assign (.tmp rfl)) ?_
        refine WL.nil ?_
        refine WN.seq ?_
        refine W.seq ?_
        refine W.region ?_
        refine WL.op rfl (Op1.load ty23 (.tmp rfl)) ?_
        refine WL.op rfl (Op1.load ty23 (.tmp rfl)) ?_
        refine WL.op rfl (Op1.eqSt (D := 2) rfl (by decide) eg23 eq23 (.tmp rfl) (.tmp rfl)) ?_
        refine WL.op rfl (Op1.move (.tmp rfl)) ?_
        rcases bcases (decide (insert.1 = where0_1.1)) with hb15 | hb15
        · have hp16 := of_decide_eq_true hb15
          rw [if_pos hp16] at hm
          refine WL.run rfl rfl rfl rfl hb15 rfl rfl (Op1.move (.tmp rfl)) ?_
          refine WL.run rfl rfl rfl rfl hb15 rfl rfl (Op1.move (.tmp rfl)) ?_
          refine WL.run rfl rfl rfl rfl hb15 rfl rfl (Op1.eqI (.tmp rfl) (.tmp rfl)) ?_
          refine WL.op rfl (Op1.pickT (.tmp rfl) hb15 (.tmp rfl)) ?_
          refine WL.op rfl (Op1.move (.tmp rfl)) ?_
          rcases bcases (decide (insert.2.1 = where0_1.2.1)) with hb17 | hb17
          · have hp18 := of_decide_eq_true hb17
            rw [if_pos hp18] at hm
            refine WL.run rfl rfl rfl rfl hb17 rfl rfl (Op1.move (.tmp rfl)) ?_
            refine WL.run rfl rfl rfl rfl hb17 rfl rfl (Op1.move (.tmp rfl)) ?_
            refine WL.run rfl rfl rfl rfl hb17 rfl rfl (Op1.eqI (.tmp rfl) (.tmp rfl)) ?_
            refine WL.op rfl (Op1.pickT (.tmp rfl) hb17 (.tmp rfl)) ?_
            refine WL.op rfl (Op1.assign (.tmp rfl)) ?_
            refine WL.nil ?_
            refine WN.seq ?_
            have hr := Option.some.inj hm
            clear hm
            subst hr
            exact W.ret1 () rfl (.tmp rfl) trivial
          · have hp18 := of_decide_eq_false hb17
            rw [if_neg hp18] at hm
            refine WL.pass rfl rfl rfl rfl hb17 rfl rfl ?_
            refine WL.pass rfl rfl rfl rfl hb17 rfl rfl ?_
            refine WL.pass rfl rfl rfl rfl hb17 rfl rfl ?_
            refine WL.op rfl (Op1.pickF (.tmp rfl) hb17 .bool) ?_
            refine WL.op rfl (Op1.assign (.tmp rfl)) ?_
            refine WL.nil ?_
            refine WN.seq ?_
            have hr := Option.some.inj hm
            clear hm
            subst hr
            exact W.ret1 () rfl (.tmp rfl) trivial
        · have hp16 := of_decide_eq_false hb15
          rw [if_neg hp16] at hm
          refine WL.pass rfl rfl rfl rfl hb15 rfl rfl ?_
          refine WL.pass rfl rfl rfl rfl hb15 rfl rfl ?_
          refine WL.pass rfl rfl rfl rfl hb15 rfl rfl ?_
          refine WL.op rfl (Op1.pickF (.tmp rfl) hb15 .bool) ?_
          refine WL.op rfl (Op1.move (.tmp rfl)) ?_
          refine WL.pass rfl rfl rfl rfl rfl rfl rfl ?_
          refine WL.pass rfl rfl rfl rfl rfl rfl rfl ?_
          refine WL.pass rfl rfl rfl rfl rfl rfl rfl ?_
          refine WL.op rfl (Op1.pickF (.tmp rfl) rfl .bool) ?_
          refine WL.op rfl (Op1.assign (.tmp rfl)) ?_
          refine WL.nil ?_
          refine WN.seq ?_
          have hr := Option.some.inj hm
          clear hm
          subst hr
          exact W.ret1 () rfl (.tmp rfl) trivial
    · have hm := hs5
      clear hs5
      refine W.region ?_
      refine WL.op rfl (Op1.load ty27 (.tmp rfl)) ?_
      obtain ⟨book, hv7, hm⟩ := bind_some hm
      refine WL.op rfl (Op1.call Try.call9 (law21_book_spec _ _ _ hv7) ⟨(.tmp rfl), trivial⟩) ?_
      refine WL.op rfl (Op1.notB (.tmp rfl)) ?_
      refine WL.op rfl (Op1.move (.tmp rfl)) ?_
      rcases bcases (!book) with hb8 | hb8
      · have hp9 := not_pos hb8
        rw [if_pos hp9] at hm
        refine WL.pass rfl rfl rfl rfl hb8 rfl rfl ?_
        refine WL.pass rfl rfl rfl rfl hb8 rfl rfl ?_
        refine WL.pass rfl rfl rfl rfl hb8 rfl rfl ?_
        refine WL.pass rfl rfl rfl rfl hb8 rfl rfl ?_
        refine WL.op rfl (Op1.pickT (.tmp rfl) hb8 .bool) ?_
        refine WL.nil ?_
        exact WN.meet true (Option.some.inj hm) ⟨Ent.q rfl, Ent.q rfl, Ent.q rfl, Ent.q rfl, trivial⟩ trivial
      · have hp9 := not_neg hb8
        rw [if_neg hp9] at hm
        refine WL.run rfl rfl rfl rfl hb8 rfl rfl (Op1.move (.tmp rfl)) ?_
        refine WL.run rfl rfl rfl rfl hb8 rfl rfl (Op1.build (s := tapi_Item) (x := (⟨(0 : Int), p, ([] : List api_Step), (0 : Int), (0 : Int), zapi_Unit, ([] : List Str), ([] : List Str), ([] : Str), ([] : Str), zapi_Start, (0 : Int), (0 : Int), (0 : Int), ([] : Str), ([] : List api_Item)⟩ : api_Item)) zapi_Item_f rfl Try.underlying37 (zapi_Item_sz _ Try.underlying37) ze37 ⟨_, (tL tapi_Step), p, _, _, rfl, Try.sizeOf28, (.tmp rfl), sapi_Item_1, rfl⟩) ?_
        obtain ⟨few, hv10, hm⟩ := bind_some hm
        refine WL.run rfl rfl rfl rfl hb8 rfl rfl (Op1.call Try.call10 (r17_Few_spec _ _ _ hv10) ⟨(.tmp rfl), trivial⟩) ?_
        refine WL.run rfl rfl rfl rfl hb8 rfl rfl (Op1.notB (.tmp rfl)) ?_
        refine WL.op rfl (Op1.pickF (.tmp rfl) hb8 (.tmp rfl)) ?_
        refine WL.nil ?_
        exact WN.meet (!few) (Option.some.inj hm) ⟨Ent.q rfl, Ent.q rfl, Ent.q rfl, Ent.q rfl, trivial⟩ trivial

theorem r07_below_spec : ∀ (n : Nat) (u : api_Unit) (id : api_Id) (r : (List api_Step) × Bool), M.r07_below n u id = some r → FSpec Try.prog 33 [(tapi_Unit.is u), (tapi_Id.is id)] (Asn.tuple2 ((tL tapi_Step).is r.1) (tB.is r.2)) := by
  intro n
  induction n with
  | zero => intro u id r hm; cases hm
  | succ n ih =>
    intro u id r hm
    rw [M.r07_below.eq_2] at hm
    refine FSpec.of Try.func33 rfl rfl rfl (fun g0 => ?_)
    refine W.seq ?_
    refine W.region ?_
    refine WL.op rfl (Op1.box (.tmp rfl)) ?_
    refine WL.op rfl (Op1.box (.tmp rfl)) ?_
    refine WL.op rfl (Op1.assign (.nil (t := tapi_Step))) ?_
    refine WL.op rfl (Op1.assign .bool) ?_
    refine WL.nil ?_
    refine WN.seq ?_
    refine W.seq ?_
    refine W.seq ?_
    refine W.region ?_
    refine WL.op rfl (Op1.fieldAddr Try.underlying27 rfl (fun w => ⟨2, Try.sizeOf23 w⟩) fapi_Unit_0 (.tmp rfl)) ?_
    refine WL.op rfl (Op1.load ty23 (.tmp rfl)) ?_
    refine WL.op rfl (Op1.load ty23 (.tmp rfl)) ?_
    refine WL.op rfl (Op1.eqSt (D := 2) rfl (by decide) eg23 eq23 (.tmp rfl) (.tmp rfl)) ?_
    refine WL.nil ?_
    refine WN.seq ?_
    refine W.cond (.tmp rfl) (fun hc1 => ?_) (fun hc1 => ?_)
    · have hp2 := of_decide_eq_true hc1
      rw [if_pos hp2] at hm
      refine W.seq ?_
      refine W.region ?_
      refine WL.op rfl (Op1.buildSlice (n := 0) (ys := []) (z := zapi_Step) (xs := ([] : List api_Step)) Try.underlying28 el63 ze63 trivial (by simp) (by decide) rfl) ?_
      refine WL.op rfl (Op1.assign (.tmp rfl)) ?_
      refine WL.op rfl (Op1.assign .bool) ?_
      refine WL.nil ?_
      refine WN.seq ?_
      have hr := Option.some.inj hm
      clear hm
      subst hr
      exact W.ret2 () rfl rfl (.tmp rfl) (.tmp rfl) trivial
    · have hp2 := of_decide_eq_false hc1
      rw [if_neg hp2] at hm
      refine W.skip ?_
      refine WN.seq ?_
      refine W.seq ?_
      refine W.seq ?_
      refine W.region ?_
      refine WL.op rfl (Op1.assign (.int (inR64.2 (by omega)))) ?_
      refine WL.nil ?_
      refine WN.seq ?_
      refine W.block ?_
      obtain ⟨s3, hs4, hk5⟩ := bind_some hm
      clear hm
      refine W.loop (fun m (s : Int) => M.r07_below_loop1 u id (M.r07_below n) m s = some s3) (fun s => [(6, ((tI .i64).is s)), (2, (tapi_Unit.ptr u)), (3, (tapi_Id.ptr id))]) (fun s => []) _ (0 : Int) hs4 ⟨Ent.q rfl, Ent.q rfl, Ent.q rfl, trivial⟩ trivial ?_
      rintro n6 i hm
      try dsimp only at hm
      change W _ _ _ _ _ _ _ [(6, ((tI .i64).is i)), (2, (tapi_Unit.ptr u)), (3, (tapi_Id.ptr id))] []
      cases n6 with
      | zero => rw [M.r07_below_loop1.eq_1] at hm; cases hm
      | succ n6 =>
        rw [M.r07_below_loop1.eq_2] at hm
        refine W.seq ?_
        refine W.seq ?_
        refine W.region ?_
        refine WL.op rfl (Op1.move (.tmp rfl)) ?_
        refine WL.op rfl (Op1.fieldAddr Try.underlying27 rfl (fun w => ⟨0, Try.sizeOf25 w⟩) fapi_Unit_5 (.tmp rfl)) ?_
        refine WL.op rfl (Op1.load ty25 (.tmp rfl)) ?_
        refine WL.op rfl (Op1.lenL Try.underlying25 (.tmp rfl)) ?_
        refine WL.op rfl (Op1.ltI (.tmp rfl) (.tmp rfl)) ?_
        refine WL.nil ?_
        refine WN.seq ?_
        refine W.cond (.tmp rfl) (fun hc7 => ?_) (fun hc7 => ?_)
        · have hp8 := of_decide_eq_true hc7
          rw [if_pos hp8] at hm
          refine W.skip ?_
          refine WN.seq ?_
          refine W.seq ?_
          refine W.block ?_
          refine W.seq ?_
          obtain ⟨v, hv9, hm⟩ := bind_some hm
          obtain ⟨below, hv10, hm⟩ := bind_some hm
          refine W.weakR (res' := []) trivial ?_
          refine W.drawM [.c ((tL tapi_Unit).ptr u.Kids), .c ((tL tapi_Unit).is u.Kids), .c ((tI .i64).is i), .c (tapi_Unit.ptr v), .c (tapi_Unit.is v), .c (tapi_Id.is id), .c (Asn.tuple2 ((tL tapi_Step).is below.1) (tB.is below.2)), .c (Asn.tuple2 ((tL tapi_Step).is below.1) (tB.is below.2)), .c ((tL tapi_Step).is below.1), .c (tB.is below.2), .c ((tL tapi_Step).is below.1), .c (tB.is below.2)] [([], [2]), ([0], []), ([], [6]), ([1, 2], []), ([3], []), ([], [3]), ([4, 5], []), ([6], []), ([7], []), ([7], []), ([8], []), ([9], [])] [] [[], [], [], [], [], [], [], [], [], [], [], []] (fun m cv => match m with  | _ => []) (fun _ => none) Try.mixed rfl rfl rfl rfl rfl ⟨fun _ _ _ _ => rfl, ⟨fun _ _ _ _ => rfl, ⟨fun _ _ _ _ => rfl, ⟨fun _ _ _ _ => rfl, ⟨fun _ _ _ _ => rfl, ⟨fun _ _ _ _ => rfl, ⟨fun _ _ _ _ => rfl, ⟨fun _ _ _ _ => rfl, ⟨fun _ _ _ _ => rfl, ⟨fun _ _ _ _ => rfl, ⟨fun _ _ _ _ => rfl, ⟨fun _ _ _ _ => rfl, trivial⟩⟩⟩⟩⟩⟩⟩⟩⟩⟩⟩⟩ rfl ⟨.inr ⟨fun cv => [], (fun _ _ _ _ => trivial), fun cv => Op1.fieldAddr Try.underlying27 rfl (fun w => ⟨0, Try.sizeOf25 w⟩) fapi_Unit_5 (.tmp rfl)⟩, ⟨.inr ⟨fun cv => [], (fun _ _ _ _ => trivial), fun cv => Op1.load ty25 (.tmp rfl)⟩, ⟨.inr ⟨fun cv => [], (fun _ _ _ _ => trivial), fun cv => Op1.move (.tmp rfl)⟩, ⟨.inr ⟨fun cv => [], (fun _ _ _ _ => trivial), fun cv => Op1.idx hv9 Try.underlying25 Try.sizeOf27 (.tmp rfl) (.tmp rfl)⟩, ⟨.inr ⟨fun cv => [], (fun _ _ _ _ => trivial), fun cv => Op1.load ty27 (.tmp rfl)⟩, ⟨.inr ⟨fun cv => [], (fun _ _ _ _ => trivial), fun cv => Op1.load ty23 (.tmp rfl)⟩, ⟨.inr ⟨fun cv => [], (fun _ _ _ _ => trivial), fun cv => Op1.call Try.call33 (ih _ _ _ hv10) ⟨(.tmp rfl), (.tmp rfl), trivial⟩⟩, ⟨.inr ⟨fun cv => [], (fun _ _ _ _ => trivial), fun cv => Op1.move (.tmp rfl)⟩, ⟨.inr ⟨fun cv => [], (fun _ _ _ _ => trivial), fun cv => Op1.extract0 (.tmp rfl)⟩, ⟨.inr ⟨fun cv => [], (fun _ _ _ _ => trivial), fun cv => Op1.extract1 (.tmp rfl)⟩, ⟨.inr ⟨fun cv => [], (fun _ _ _ _ => trivial), fun cv => Op1.assign (.tmp rfl)⟩, ⟨.inr ⟨fun cv => [], (fun _ _ _ _ => trivial), fun cv => Op1.assign (.tmp rfl)⟩, trivial⟩⟩⟩⟩⟩⟩⟩⟩⟩⟩⟩⟩ trivial (fun cv => ?_)
          refine WN.seq ?_
          refine W.seq ?_
          refine W.region ?_
          refine WL.op rfl (Op1.move (.tmp rfl)) ?_
          refine WL.nil ?_
          refine WN.seq ?_
          refine W.cond (.tmp rfl) (fun hc11 => ?_) (fun hc11 => ?_)
          · have hp12 := hc11
            rw [if_pos hp12] at hm
            refine W.seq ?_
            obtain ⟨v1, hv13, hm⟩ := bind_some hm
            obtain ⟨v2, hv14, hm⟩ := bind_some hm
            obtain ⟨out, hv15, hm⟩ := bind_some hm
            refine W.weakR (res' := []) trivial ?_
            refine W.drawM [.c ((tL tapi_Unit).ptr u.Kids), .c ((tL tapi_Unit).is u.Kids), .c ((tI .i64).is i), .c (tapi_Unit.ptr v1), .c ((tI .i64).ptr v1.Kind), .c ((tI .i64).is v1.Kind), .c ((tL tapi_Unit).ptr u.Kids), .c ((tL tapi_Unit).is u.Kids), .c ((tI .i64).is i), .c (tapi_Unit.ptr v2), .c (tS.ptr v2.Label), .c (tS.is v2.Label), .c (tapi_Step.is (⟨v1.Kind, v2.Label⟩ : api_Step)), .f (fun cv1 => (tO tapi_Step (cv1 0) [(⟨v1.Kind, v2.Label⟩ : api_Step)])), .c ((tL tapi_Step).is below.1), .f (fun cv1 => (tO tapi_Step (cv1 1) out)), .f (fun cv1 => (tO tapi_Step (cv1 1) out)), .c (tB.is true)] [([], [2]), ([0], []), ([], [6]), ([1, 2], []), ([3], []), ([4], []), ([], [2]), ([6], []), ([], [6]), ([7, 8], []), ([9], []), ([10], []), ([5, 11], []), ([12], []), ([], [7]), ([13, 14], []), ([15], []), ([], [])] [13, 15] [[], [], [], [], [], [], [], [], [], [], [], [], [], [true], [], [false, true], [false, true], []] (fun m cv1 => match m with | 0 => [] | 1 => [(45, Own tapi_Step 63 (cv1 0) [(⟨v1.Kind, v2.Label⟩ : api_Step)].length)] | _ => [(45, Own tapi_Step 63 (cv1 1) out.length)]) (fun _ => none) Try.mixed rfl rfl rfl rfl rfl ⟨fun _ _ _ _ => rfl, ⟨fun _ _ _ _ => rfl, ⟨fun _ _ _ _ => rfl, ⟨fun _ _ _ _ => rfl, ⟨fun _ _ _ _ => rfl, ⟨fun _ _ _ _ => rfl, ⟨fun _ _ _ _ => rfl, ⟨fun _ _ _ _ => rfl, ⟨fun _ _ _ _ => rfl, ⟨fun _ _ _ _ => rfl, ⟨fun _ _ _ _ => rfl, ⟨fun _ _ _ _ => rfl, ⟨fun _ _ _ _ => rfl, ⟨fun m hm c t => by simp only [DA.at, upd_dep (r := [true]) (j := 0) rfl hm], ⟨fun _ _ _ _ => rfl, ⟨fun m hm c t => by simp only [DA.at, upd_dep (r := [false, true]) (j := 1) rfl hm], ⟨fun m hm c t => by simp only [DA.at, upd_dep (r := [false, true]) (j := 1) rfl hm], ⟨fun _ _ _ _ => rfl, trivial⟩⟩⟩⟩⟩⟩⟩⟩⟩⟩⟩⟩⟩⟩⟩⟩⟩⟩ rfl ⟨.inr ⟨fun cv1 => [], (fun _ _ _ _ => trivial), fun cv1 => Op1.fieldAddr Try.underlying27 rfl (fun w => ⟨0, Try.sizeOf25 w⟩) fapi_Unit_5 (.tmp rfl)⟩, ⟨.inr ⟨fun cv1 => [], (fun _ _ _ _ => trivial), fun cv1 => Op1.load ty25 (.tmp rfl)⟩, ⟨.inr ⟨fun cv1 => [], (fun _ _ _ _ => trivial), fun cv1 => Op1.move (.tmp rfl)⟩, ⟨.inr ⟨fun cv1 => [], (fun _ _ _ _ => trivial), fun cv1 => Op1.idx hv13 Try.underlying25 Try.sizeOf27 (.tmp rfl) (.tmp rfl)⟩, ⟨.inr ⟨fun cv1 => [], (fun _ _ _ _ => trivial), fun cv1 => Op1.fieldAddr Try.underlying27 rfl (fun w => ⟨0, Try.sizeOf3 w⟩) fapi_Unit_1 (.tmp rfl)⟩, ⟨.inr ⟨fun cv1 => [], (fun _ _ _ _ => trivial), fun cv1 => Op1.load ty3 (.tmp rfl)⟩, ⟨.inr ⟨fun cv1 => [], (fun _ _ _ _ => trivial), fun cv1 => Op1.fieldAddr Try.underlying27 rfl (fun w => ⟨0, Try.sizeOf25 w⟩) fapi_Unit_5 (.tmp rfl)⟩, ⟨.inr ⟨fun cv1 => [], (fun _ _ _ _ => trivial), fun cv1 => Op1.load ty25 (.tmp rfl)⟩, ⟨.inr ⟨fun cv1 => [], (fun _ _ _ _ => trivial), fun cv1 => Op1.move (.tmp rfl)⟩, ⟨.inr ⟨fun cv1 => [], (fun _ _ _ _ => trivial), fun cv1 => Op1.idx hv14 Try.underlying25 Try.sizeOf27 (.tmp rfl) (.tmp rfl)⟩, ⟨.inr ⟨fun cv1 => [], (fun _ _ _ _ => trivial), fun cv1 => Op1.fieldAddr Try.underlying27 rfl (fun w => ⟨0, Try.sizeOf9 w⟩) fapi_Unit_2 (.tmp rfl)⟩, ⟨.inr ⟨fun cv1 => [], (fun _ _ _ _ => trivial), fun cv1 => Op1.load ty9 (.tmp rfl)⟩, ⟨.inr ⟨fun cv1 => [], (fun _ _ _ _ => trivial), fun cv1 => Op1.build (s := tapi_Step) (x := (⟨v1.Kind, v2.Label⟩ : api_Step)) zapi_Step_f rfl Try.underlying63 (zapi_Step_sz _ Try.underlying63) ze63 ⟨_, (tI .i64), v1.Kind, _, _, rfl, Try.sizeOf3, (.tmp rfl), sapi_Step_0, ⟨_, tS, v2.Label, _, _, rfl, Try.sizeOf9, (.tmp rfl), sapi_Step_1, rfl⟩⟩⟩, ⟨.inl rfl, ⟨.inr ⟨fun cv1 => [], (fun _ _ _ _ => trivial), fun cv1 => Op1.move (.tmp rfl)⟩, ⟨.inl rfl, ⟨.inr ⟨fun cv1 => [], (fun _ _ _ _ => trivial), fun cv1 => Op1.assign (.tmp rfl)⟩, ⟨.inr ⟨fun cv1 => [], (fun _ _ _ _ => trivial), fun cv1 => Op1.assign .bool⟩, trivial⟩⟩⟩⟩⟩⟩⟩⟩⟩⟩⟩⟩⟩⟩⟩⟩⟩⟩ ⟨⟨_, _, _, [], (fun cv1 => [(45, Own tapi_Step 63 (cv1 0) [(⟨v1.Kind, v2.Label⟩ : api_Step)].length)]), rfl, rfl, rfl, rfl, fun _ => rfl, fun _ _ => rfl, fun cv1 => OpR.buildSlice (n := 1) (ys := [(0, (⟨v1.Kind, v2.Label⟩ : api_Step))]) (z := zapi_Step) (xs := [(⟨v1.Kind, v2.Label⟩ : api_Step)]) 45 Try.underlying28 el63 ze63 ⟨rfl, (.tmp rfl), trivial⟩ (by simp) (by decide) rfl⟩, ⟨⟨_, _, _, [45], (fun cv1 => [(45, Own tapi_Step 63 (cv1 1) out.length)]), rfl, rfl, rfl, rfl, fun _ => rfl, fun _ _ => rfl, fun cv1 => OpR.appC (key := 45) hv15 Try.underlying28 el63 (.tmp rfl) (.tmp rfl) rfl⟩, trivial⟩⟩ (fun cv1 => ?_)
            refine WN.seq ?_
            have hr16 := Option.some.inj hm
            clear hm
            subst hr16
            have hm := hk5
            try dsimp only at hm
            have hr := Option.some.inj hm
            clear hm
            subst hr
            exact W.ret2 () rfl rfl (Opd.own (.tmp rfl)) (.tmp rfl) trivial
          · have hp12 := ne_of_false hc11
            rw [if_neg hp12] at hm
            refine W.skip ?_
            refine WN.block ?_
            refine WN.seq ?_
            refine W.region ?_
            refine WL.op rfl (Op1.move (.tmp rfl)) ?_
            refine WL.lenL (s := 16) (.tmp rfl) fun hl17 => ?_
            refine WL.op rfl (Op1.addI1 (.tmp rfl) (.int (inR64.2 (by omega))) hp8 hl17) ?_
            refine WL.op rfl (Op1.assign (.tmp rfl)) ?_
            refine WL.nil ?_
            exact WN.again n6 (i + 1) (Nat.lt_succ_self n6) hm ⟨Ent.q rfl, Ent.q rfl, Ent.q rfl, trivial⟩ trivial
        · have hp8 := of_decide_eq_false hc7
          rw [if_neg hp8] at hm
          refine W.exit rfl ?_
          have hr18 := Option.some.inj hm
          clear hm
          subst hr18
          have hm := hk5
          try dsimp only at hm
          refine WN.seq ?_
          refine W.seq ?_
          refine W.region ?_
          refine WL.op rfl (Op1.assign (.nil (t := tapi_Step))) ?_
          refine WL.op rfl (Op1.assign .bool) ?_
          refine WL.nil ?_
          refine WN.seq ?_
          have hr := Option.some.inj hm
          clear hm
          subst hr
          exact W.ret2 () rfl rfl (.tmp rfl) (.tmp rfl) trivial

theorem r07_Whole_spec (n : Nat) (u : api_Unit) (id : api_Id) (r : (List api_Step) × Bool) (hm : M.r07_Whole n u id = some r) : FSpec Try.prog 14 [(tapi_Unit.is u), (tapi_Id.is id)] (Asn.tuple2 ((tL tapi_Step).is r.1) (tB.is r.2)) := by
  unfold M.r07_Whole at hm
  refine FSpec.of Try.func14 rfl rfl rfl (fun g0 => ?_)
  refine W.seq ?_
  refine W.region ?_
  refine WL.op rfl (Op1.box (.tmp rfl)) ?_
  refine WL.op rfl (Op1.box (.tmp rfl)) ?_
  refine WL.op rfl (Op1.assign (.nil (t := tapi_Step))) ?_
  refine WL.op rfl (Op1.assign .bool) ?_
  refine WL.nil ?_
  refine WN.seq ?_
  refine W.seq ?_
  refine W.region ?_
  refine WL.op rfl (Op1.load ty27 (.tmp rfl)) ?_
  refine WL.op rfl (Op1.load ty23 (.tmp rfl)) ?_
  obtain ⟨below, hv1, hm⟩ := bind_some hm
  refine WL.op rfl (Op1.call Try.call33 (r07_below_spec _ _ _ _ hv1) ⟨(.tmp rfl), (.tmp rfl), trivial⟩) ?_
  refine WL.op rfl (Op1.move (.tmp rfl)) ?_
  refine WL.op rfl (Op1.extract0 (.tmp rfl)) ?_
  refine WL.op rfl (Op1.extract1 (.tmp rfl)) ?_
  refine WL.op rfl (Op1.assign (.tmp rfl)) ?_
  refine WL.op rfl (Op1.assign (.tmp rfl)) ?_
  refine WL.nil ?_
  refine WN.seq ?_
  refine W.seq ?_
  refine W.seq ?_
  refine W.region ?_
  refine WL.op rfl (Op1.move (.tmp rfl)) ?_
  refine WL.op rfl (Op1.notB (.tmp rfl)) ?_
  refine WL.nil ?_
  refine WN.seq ?_
  refine W.cond (.tmp rfl) (fun hc2 => ?_) (fun hc2 => ?_)
  · have hp3 := not_pos hc2
    rw [if_pos hp3] at hm
    refine W.seq ?_
    refine W.region ?_
    refine WL.op rfl (Op1.assign (.nil (t := tapi_Step))) ?_
    refine WL.op rfl (Op1.assign .bool) ?_
    refine WL.nil ?_
    refine WN.seq ?_
    have hr := Option.some.inj hm
    clear hm
    subst hr
    exact W.ret2 () rfl rfl (.tmp rfl) (.tmp rfl) trivial
  · have hp3 := not_neg hc2
    rw [if_neg hp3] at hm
    refine W.skip ?_
    refine WN.seq ?_
    refine W.seq ?_
    refine W.region ?_
    refine WL.op rfl (Op1.build (s := tapi_Step) (x := (⟨(0 : Int), ([] : Str)⟩ : api_Step)) zapi_Step_f rfl Try.underlying63 (zapi_Step_sz _ Try.underlying63) ze63 rfl) ?_
    refine WL.opR rfl (OpR.buildSlice (n := 1) (ys := [(0, (⟨(0 : Int), ([] : Str)⟩ : api_Step))]) (z := zapi_Step) (xs := [(⟨(0 : Int), ([] : Str)⟩ : api_Step)]) 17 Try.underlying28 el63 ze63 ⟨rfl, (.tmp rfl), trivial⟩ (by simp) (by decide) rfl) (fun k => ?_)
    refine WL.op rfl (Op1.move (.tmp rfl)) ?_
    obtain ⟨out, hv4, hm⟩ := bind_some hm
    refine WL.opR rfl (OpR.appC (key := 17) hv4 Try.underlying28 el63 (.tmp rfl) (.tmp rfl) rfl) (fun k1 => ?_)
    refine WL.op rfl (Op1.assign (.tmp rfl)) ?_
    refine WL.op rfl (Op1.assign .bool) ?_
    refine WL.nil ?_
    refine WN.seq ?_
    have hr := Option.some.inj hm
    clear hm
    subst hr
    exact W.ret2 () rfl rfl (Opd.own (.tmp rfl)) (.tmp rfl) trivial

end Go.Proofs.Ytfclekegoleiaaa
