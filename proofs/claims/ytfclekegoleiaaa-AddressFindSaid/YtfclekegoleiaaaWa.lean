/-
  The code does what the models say: written by program.
-/
import Derived.Test.YtfclekegoleiaaaBd
set_option linter.unusedVariables false
set_option linter.unusedSimpArgs false
namespace Go.Proofs.Ytfclekegoleiaaa
open Go Go.Dec

set_option maxRecDepth 100000
set_option maxHeartbeats 4000000
theorem target_isWhere_spec (where0_ : Int) (r : Bool) (hm : M.target_isWhere where0_ = some r) : FSpec Try.prog 31 [((tI .i64).is where0_)] (tB.is r) := by
  unfold M.target_isWhere at hm
  refine FSpec.of Try.func31 rfl rfl rfl (fun g0 => ?_)
  refine W.sr ?_
  refine WL.op rfl (Op1.assign .bool) ?_
  refine WL.nr ?_
  refine WL.mv rfl rfl ?_
  refine WL.op rfl (Op1.geI (.tmp rfl) (.int (inR64.2 (by omega)))) ?_
  refine WL.mv rfl rfl ?_
  rcases bcases (decide ((0 : Int) ≤ where0_)) with hb1 | hb1
  · have hp2 := of_decide_eq_true hb1
    rw [if_pos hp2] at hm
    refine WL.run rfl rfl rfl rfl hb1 rfl rfl (Op1.move (.tmp rfl)) ?_
    refine WL.run rfl rfl rfl rfl hb1 rfl rfl (Op1.leI (.tmp rfl) (.int (inR64.2 (by omega)))) ?_
    refine WL.op rfl (Op1.pickT (.tmp rfl) hb1 (.tmp rfl)) ?_
    refine WL.gv rfl rfl ?_
    refine WL.ns ?_
    cases hm
    exact W.ret1 () rfl (.tmp rfl) trivial
  · have hp2 := of_decide_eq_false hb1
    rw [if_neg hp2] at hm
    refine WL.pass rfl rfl rfl rfl hb1 rfl rfl ?_
    refine WL.pass rfl rfl rfl rfl hb1 rfl rfl ?_
    refine WL.op rfl (Op1.pickF (.tmp rfl) hb1 .bool) ?_
    refine WL.gv rfl rfl ?_
    refine WL.ns ?_
    cases hm
    exact W.ret1 () rfl (.tmp rfl) trivial

theorem address_book_spec (s0_ : api_Step) (r : Bool) (hm : M.address_book s0_ = some r) : FSpec Try.prog 62 [(tapi_Step.is s0_)] (tB.is r) := by
  unfold M.address_book at hm
  refine FSpec.of Try.func62 rfl rfl rfl (fun g0 => ?_)
  refine W.sr ?_
  refine WL.op rfl (Op1.box (.tmp rfl)) ?_
  refine WL.op rfl (Op1.assign .bool) ?_
  refine WL.nr ?_
  refine WL.op rfl (Op1.fieldAddr Try.underlying63 rfl (fun w => ⟨0, Try.sizeOf3 w⟩) fapi_Step_0 (.tmp rfl)) ?_
  refine WL.op rfl (Op1.load ty3 (.tmp rfl)) ?_
  refine WL.op rfl (Op1.eqI (.tmp rfl) (.int (inR64.2 (by omega)))) ?_
  refine WL.mv rfl rfl ?_
  rcases bcases (decide (s0_.Kind = (0 : Int))) with hb1 | hb1
  · have hp2 := of_decide_eq_true hb1
    rw [if_pos hp2] at hm
    refine WL.run rfl rfl rfl rfl hb1 rfl rfl (Op1.fieldAddr Try.underlying63 rfl (fun w => ⟨0, Try.sizeOf9 w⟩) fapi_Step_1 (.tmp rfl)) ?_
    refine WL.run rfl rfl rfl rfl hb1 rfl rfl (Op1.load ty9 (.tmp rfl)) ?_
    refine WL.run rfl rfl rfl rfl hb1 rfl rfl (Op1.eqS (.tmp rfl) (.str rfl (by decide))) ?_
    refine WL.op rfl (Op1.pickT (.tmp rfl) hb1 (.tmp rfl)) ?_
    refine WL.gv rfl rfl ?_
    refine WL.ns ?_
    cases hm
    exact W.ret1 () rfl (.tmp rfl) trivial
  · have hp2 := of_decide_eq_false hb1
    rw [if_neg hp2] at hm
    refine WL.pass rfl rfl rfl rfl hb1 rfl rfl ?_
    refine WL.pass rfl rfl rfl rfl hb1 rfl rfl ?_
    refine WL.pass rfl rfl rfl rfl hb1 rfl rfl ?_
    refine WL.op rfl (Op1.pickF (.tmp rfl) hb1 .bool) ?_
    refine WL.gv rfl rfl ?_
    refine WL.ns ?_
    cases hm
    exact W.ret1 () rfl (.tmp rfl) trivial

theorem strings_indexFunc_spec (n : Nat) (s0_ : Str) (f : Int → Option Bool) (truth : Bool) (r : Int) (hm : M.strings_indexFunc n s0_ f truth = some r) : FSpec Try.prog 102 [(tS.is s0_), (tF Try.prog (fun s : Int × Bool => f s.1 = some s.2) (fun s : Int × Bool => [(tI .i32).is s.1]) (fun s : Int × Bool => (tB.is s.2))), (tB.is truth)] ((tI .i64).is r) := by
  unfold M.strings_indexFunc at hm
  refine FSpec.of Try.func102 rfl rfl rfl (fun g0 => ?_)
  refine W.sr ?_
  refine WL.op rfl (Op1.assign (.int (inR64.2 (by omega)))) ?_
  refine WL.ns ?_
  refine W.seq ?_
  refine W.sr ?_
  refine WL.mv rfl rfl ?_
  refine WL.opR rfl (OpR.range 10 Try.underlying9 (.tmp rfl)) (fun b => ?_)
  refine WL.ns ?_
  refine W.block ?_
  obtain ⟨s1, hs2, hk3⟩ := bind_some hm
  clear hm
  refine W.loop (fun m (s : Nat) => M.strings_indexFunc_loop1 s0_ f truth m s = some s1) (fun s => [(1, (tF Try.prog (fun s : Int × Bool => f s.1 = some s.2) (fun s : Int × Bool => [(tI .i32).is s.1]) (fun s : Int × Bool => (tB.is s.2)))), (2, (tB.is truth)), (10, (Bp b 0))]) (fun s => [(10, It s0_ s b)]) _ 0 hs2 ⟨Ent.q rfl, Ent.q rfl, Ent.q rfl, trivial⟩ ⟨rfl, rfl, trivial⟩ ?_
  rintro n4 v hm
  try dsimp only at hm
  change W _ _ _ _ _ _ _ [(1, (tF Try.prog (fun s : Int × Bool => f s.1 = some s.2) (fun s : Int × Bool => [(tI .i32).is s.1]) (fun s : Int × Bool => (tB.is s.2)))), (2, (tB.is truth)), (10, (Bp b 0))] [(10, It s0_ v b)]
  cases n4 with
  | zero => rw [M.strings_indexFunc_loop1.eq_1] at hm; cases hm
  | succ n4 =>
    rw [M.strings_indexFunc_loop1.eq_2] at hm
    refine W.sr ?_
    by_cases hp5 : v < s0_.length
    · rw [if_pos hp5] at hm
      refine WL.opR rfl (OpR.nextT (b := b) 10 hp5 rfl (.tmp rfl)) (fun _ => ?_)
      refine WL.op rfl (Op1.extract30 (.tmp rfl)) ?_
      refine WL.ns ?_
      refine W.seq ?_
      refine W.condT (.tmp rfl) ?_
      refine W.skip ?_
      refine WN.seq ?_
      refine W.block ?_
      refine W.sr ?_
      refine WL.op rfl (Op1.extract31 (.tmp rfl)) ?_
      refine WL.op rfl (Op1.extract32 (.tmp rfl)) ?_
      refine WL.gv rfl rfl ?_
      refine WL.gv rfl rfl ?_
      refine WL.nr ?_
      refine WL.mv rfl rfl ?_
      refine WL.mv rfl rfl ?_
      obtain ⟨v1, hv6, hm⟩ := bind_some hm
      refine WL.op rfl (Op1.callF (ok := (fun s : Int × Bool => f s.1 = some s.2)) (As := (fun s : Int × Bool => [(tI .i32).is s.1])) (A := (fun s : Int × Bool => (tB.is s.2))) (s := (((runeAt s0_ v).1 : Int), v1)) (.tmp rfl) hv6 ⟨(.tmp rfl), trivial⟩) ?_
      refine WL.mv rfl rfl ?_
      refine WL.op rfl (Op1.eqB Try.underlying4 (.tmp rfl) (.tmp rfl)) ?_
      refine WL.ns ?_
      refine W.cond (.tmp rfl) (fun hc7 => ?_) (fun hc7 => ?_)
      · have hp8 := hc7
        rw [if_pos hp8] at hm
        refine W.sr ?_
        refine WL.mv rfl rfl ?_
        refine WL.gv rfl rfl ?_
        refine WL.ns ?_
        have hr9 := Option.some.inj hm
        clear hm
        subst hr9
        have hm := hk3
        try dsimp only at hm
        cases hm
        exact W.ret1 () rfl (.tmp rfl) trivial
      · have hp8 := ne_of_false hc7
        rw [if_neg hp8] at hm
        refine W.skip ?_
        refine WN.block ?_
        exact WN.again n4 (v + (runeAt s0_ v).2) (Nat.lt_succ_self n4) hm ⟨Ent.q rfl, Ent.q rfl, Ent.q rfl, trivial⟩ ⟨rfl, rfl, trivial⟩
    · rw [if_neg hp5] at hm
      refine WL.op rfl (Op1.nextF 10 hp5 rfl (.tmp rfl)) ?_
      refine WL.op rfl (Op1.extract10 (.tmp rfl)) ?_
      refine WL.ns ?_
      refine W.seq ?_
      refine W.condF (.tmp rfl) ?_
      refine W.exit rfl ?_
      have hr10 := Option.some.inj hm
      clear hm
      subst hr10
      have hm := hk3
      try dsimp only at hm
      refine WN.seq ?_
      refine W.sr ?_
      refine WL.op rfl (Op1.assign (.int (inR64.2 (by omega)))) ?_
      refine WL.ns ?_
      cases hm
      exact W.ret1 () rfl (.tmp rfl) trivial

theorem strings_IndexFunc_spec (n : Nat) (s0_ : Str) (f : Int → Option Bool) (r : Int) (hm : M.strings_IndexFunc n s0_ f = some r) : FSpec Try.prog 96 [(tS.is s0_), (tF Try.prog (fun s : Int × Bool => f s.1 = some s.2) (fun s : Int × Bool => [(tI .i32).is s.1]) (fun s : Int × Bool => (tB.is s.2)))] ((tI .i64).is r) := by
  unfold M.strings_IndexFunc at hm
  refine FSpec.of Try.func96 rfl rfl rfl (fun g0 => ?_)
  refine W.sr ?_
  refine WL.op rfl (Op1.assign (.int (inR64.2 (by omega)))) ?_
  refine WL.nr ?_
  refine WL.mv rfl rfl ?_
  refine WL.mv rfl rfl ?_
  obtain ⟨indexf, hv1, hm⟩ := bind_some hm
  refine WL.op rfl (Op1.call Try.call102 (strings_indexFunc_spec _ _ _ _ _ hv1) ⟨(.tmp rfl), (.tmp rfl), .bool, trivial⟩) ?_
  refine WL.gv rfl rfl ?_
  refine WL.ns ?_
  cases hm
  exact W.ret1 () rfl (.tmp rfl) trivial

theorem label_parted_1_spec (b : Int) (r : Bool) (hm : M.label_parted_1 b = some r) : FSpec Try.prog 97 [((tI .i32).is b)] (tB.is r) := by
  unfold M.label_parted_1 at hm
  refine FSpec.of Try.func97 rfl rfl rfl (fun g0 => ?_)
  refine W.sr ?_
  refine WL.op rfl (Op1.assign .bool) ?_
  refine WL.nr ?_
  refine WL.mv rfl rfl ?_
  refine WL.op rfl (Op1.ltI (.tmp rfl) (.int (inR32.2 (by omega)))) ?_
  refine WL.mv rfl rfl ?_
  rcases bcases (decide (b < (48 : Int))) with hb1 | hb1
  · have hp2 := of_decide_eq_true hb1
    rw [if_pos hp2] at hm
    refine WL.pass rfl rfl rfl rfl hb1 rfl rfl ?_
    refine WL.pass rfl rfl rfl rfl hb1 rfl rfl ?_
    refine WL.op rfl (Op1.pickT (.tmp rfl) hb1 .bool) ?_
    refine WL.gv rfl rfl ?_
    refine WL.ns ?_
    cases hm
    exact W.ret1 () rfl (.tmp rfl) trivial
  · have hp2 := of_decide_eq_false hb1
    rw [if_neg hp2] at hm
    refine WL.run rfl rfl rfl rfl hb1 rfl rfl (Op1.move (.tmp rfl)) ?_
    refine WL.run rfl rfl rfl rfl hb1 rfl rfl (Op1.gtI (.tmp rfl) (.int (inR32.2 (by omega)))) ?_
    refine WL.op rfl (Op1.pickF (.tmp rfl) hb1 (.tmp rfl)) ?_
    refine WL.gv rfl rfl ?_
    refine WL.ns ?_
    cases hm
    exact W.ret1 () rfl (.tmp rfl) trivial

theorem label_parted_spec (n : Nat) (s0_ : Str) (r : Str × Str) (hm : M.label_parted n s0_ = some r) : FSpec Try.prog 89 [(tS.is s0_)] (Asn.tuple2 (tS.is r.1) (tS.is r.2)) := by
  unfold M.label_parted at hm
  refine FSpec.of Try.func89 rfl rfl rfl (fun g0 => ?_)
  refine W.sr ?_
  refine WL.op rfl (Op1.assign (.str rfl (by decide))) ?_
  refine WL.op rfl (Op1.assign (.str rfl (by decide))) ?_
  refine WL.nr ?_
  refine WL.mv rfl rfl ?_
  obtain ⟨indexf, hv1, hm⟩ := bind_some hm
  refine WL.op rfl (Op1.call Try.call96 (strings_IndexFunc_spec _ _ _ _ hv1) ⟨(.tmp rfl), (Opd.fn Try.call97 (fun s hs => label_parted_1_spec _ _ hs)), trivial⟩) ?_
  refine WL.gv rfl rfl ?_
  refine WL.ns ?_
  refine W.seq ?_
  refine W.sr ?_
  refine WL.mv rfl rfl ?_
  refine WL.op rfl (Op1.ltI (.tmp rfl) (.int (inR64.2 (by omega)))) ?_
  refine WL.ns ?_
  refine W.cond (.tmp rfl) (fun hc2 => ?_) (fun hc2 => ?_)
  · have hp3 := of_decide_eq_true hc2
    rw [if_pos hp3] at hm
    refine W.sr ?_
    refine WL.mv rfl rfl ?_
    refine WL.gv rfl rfl ?_
    refine WL.op rfl (Op1.assign (.str rfl (by decide))) ?_
    refine WL.ns ?_
    cases hm
    exact W.ret2 () rfl rfl (.tmp rfl) (.tmp rfl) trivial
  · have hp3 := of_decide_eq_false hc2
    rw [if_neg hp3] at hm
    refine W.skip ?_
    refine WN.seq ?_
    refine W.seq ?_
    obtain ⟨v, hv4, hm⟩ := bind_some hm
    obtain ⟨v1, hv5, hm⟩ := bind_some hm
    refine W.draw [.c (tS.is s0_), .c ((tI .i64).is indexf), .c (tS.is v), .c (tS.is s0_), .c ((tI .i64).is indexf), .c (tS.is v1), .c (tS.is v), .c (tS.is v1)] [([], [0]), ([], [4]), ([0, 1], []), ([], [0]), ([], [4]), ([3, 4], []), ([2], []), ([5], [])] Try.mixed rfl rfl rfl rfl ⟨.inr (Op1.move (.tmp rfl)), .inr (Op1.move (.tmp rfl)), .inr (Op1.sslcHi hv4 Try.underlying9 (.tmp rfl) (.tmp rfl)), .inr (Op1.move (.tmp rfl)), .inr (Op1.move (.tmp rfl)), .inr (Op1.sslcLo hv5 Try.underlying9 (.tmp rfl) (.tmp rfl)), .inr (Op1.assign (.tmp rfl)), .inr (Op1.assign (.tmp rfl)), trivial⟩ ?_
    refine WN.seq ?_
    cases hm
    exact W.ret2 () rfl rfl (.tmp rfl) (.tmp rfl) trivial

theorem strings_ContainsFunc_spec (n : Nat) (s0_ : Str) (f : Int → Option Bool) (r : Bool) (hm : M.strings_ContainsFunc n s0_ f = some r) : FSpec Try.prog 91 [(tS.is s0_), (tF Try.prog (fun s : Int × Bool => f s.1 = some s.2) (fun s : Int × Bool => [(tI .i32).is s.1]) (fun s : Int × Bool => (tB.is s.2)))] (tB.is r) := by
  unfold M.strings_ContainsFunc at hm
  refine FSpec.of Try.func91 rfl rfl rfl (fun g0 => ?_)
  refine W.sr ?_
  refine WL.op rfl (Op1.assign .bool) ?_
  refine WL.nr ?_
  refine WL.mv rfl rfl ?_
  refine WL.mv rfl rfl ?_
  obtain ⟨indexf, hv1, hm⟩ := bind_some hm
  refine WL.op rfl (Op1.call Try.call96 (strings_IndexFunc_spec _ _ _ _ hv1) ⟨(.tmp rfl), (.tmp rfl), trivial⟩) ?_
  refine WL.op rfl (Op1.geI (.tmp rfl) (.int (inR64.2 (by omega)))) ?_
  refine WL.gv rfl rfl ?_
  refine WL.ns ?_
  cases hm
  exact W.ret1 () rfl (.tmp rfl) trivial

theorem label_Valid_1_spec (b : Int) (r : Bool) (hm : M.label_Valid_1 b = some r) : FSpec Try.prog 90 [((tI .i32).is b)] (tB.is r) := by
  unfold M.label_Valid_1 at hm
  refine FSpec.of Try.func90 rfl rfl rfl (fun g0 => ?_)
  refine W.sr ?_
  refine WL.op rfl (Op1.assign .bool) ?_
  refine WL.nr ?_
  refine WL.mv rfl rfl ?_
  refine WL.op rfl (Op1.ltI (.tmp rfl) (.int (inR32.2 (by omega)))) ?_
  refine WL.mv rfl rfl ?_
  rcases bcases (decide (b < (65 : Int))) with hb1 | hb1
  · have hp2 := of_decide_eq_true hb1
    rw [if_pos hp2] at hm
    refine WL.pass rfl rfl rfl rfl hb1 rfl rfl ?_
    refine WL.pass rfl rfl rfl rfl hb1 rfl rfl ?_
    refine WL.op rfl (Op1.pickT (.tmp rfl) hb1 .bool) ?_
    refine WL.gv rfl rfl ?_
    refine WL.ns ?_
    cases hm
    exact W.ret1 () rfl (.tmp rfl) trivial
  · have hp2 := of_decide_eq_false hb1
    rw [if_neg hp2] at hm
    refine WL.run rfl rfl rfl rfl hb1 rfl rfl (Op1.move (.tmp rfl)) ?_
    refine WL.run rfl rfl rfl rfl hb1 rfl rfl (Op1.gtI (.tmp rfl) (.int (inR32.2 (by omega)))) ?_
    refine WL.op rfl (Op1.pickF (.tmp rfl) hb1 (.tmp rfl)) ?_
    refine WL.gv rfl rfl ?_
    refine WL.ns ?_
    cases hm
    exact W.ret1 () rfl (.tmp rfl) trivial

theorem label_Valid_spec (n : Nat) (s0_ : Str) (r : Bool) (hm : M.label_Valid n s0_ = some r) : FSpec Try.prog 77 [(tS.is s0_)] (tB.is r) := by
  unfold M.label_Valid at hm
  refine FSpec.of Try.func77 rfl rfl rfl (fun g0 => ?_)
  refine W.sr ?_
  refine WL.op rfl (Op1.assign .bool) ?_
  refine WL.nr ?_
  refine WL.mv rfl rfl ?_
  obtain ⟨parted, hv1, hm⟩ := bind_some hm
  refine WL.op rfl (Op1.call Try.call89 (label_parted_spec _ _ _ hv1) ⟨(.tmp rfl), trivial⟩) ?_
  refine WL.mv rfl rfl ?_
  refine WL.op rfl (Op1.extract0 (.tmp rfl)) ?_
  refine WL.op rfl (Op1.extract1 (.tmp rfl)) ?_
  refine WL.gv rfl rfl ?_
  refine WL.gv rfl rfl ?_
  refine WL.nr ?_
  refine WL.op rfl (Op1.assign .func) ?_
  refine WL.nr ?_
  refine WL.mv rfl rfl ?_
  refine WL.op rfl (Op1.lenS Try.underlying9 (.tmp rfl)) ?_
  refine WL.op rfl (Op1.geI (.tmp rfl) (.int (inR64.2 (by omega)))) ?_
  refine WL.mv rfl rfl ?_
  rcases bcases (decide ((1 : Int) ≤ (parted.1.length : Int))) with hb2 | hb2
  · have hp3 := of_decide_eq_true hb2
    rw [if_pos hp3] at hm
    refine WL.run rfl rfl rfl rfl hb2 rfl rfl (Op1.move (.tmp rfl)) ?_
    refine WL.run rfl rfl rfl rfl hb2 rfl rfl (Op1.lenS Try.underlying9 (.tmp rfl)) ?_
    refine WL.run rfl rfl rfl rfl hb2 rfl rfl (Op1.leI (.tmp rfl) (.int (inR64.2 (by omega)))) ?_
    refine WL.op rfl (Op1.pickT (.tmp rfl) hb2 (.tmp rfl)) ?_
    refine WL.mv rfl rfl ?_
    rcases bcases (decide ((parted.1.length : Int) ≤ (4 : Int))) with hb4 | hb4
    · have hp5 := of_decide_eq_true hb4
      rw [if_pos hp5] at hm
      refine WL.run rfl rfl rfl rfl hb4 rfl rfl (Op1.move (.tmp rfl)) ?_
      obtain ⟨b, hv6, hm⟩ := bind_some hm
      refine WL.run rfl rfl rfl rfl hb4 rfl rfl (Op1.sidx hv6 Try.underlying9 (.tmp rfl) (.int (inR64.2 (by omega)))) ?_
      refine WL.run rfl rfl rfl rfl hb4 rfl rfl (Op1.neI (.tmp rfl) (.int (inR8.2 (by omega)))) ?_
      refine WL.op rfl (Op1.pickT (.tmp rfl) hb4 (.tmp rfl)) ?_
      refine WL.mv rfl rfl ?_
      rcases bcases (decide ((b.toNat : Int) ≠ (48 : Int))) with hb7 | hb7
      · have hp8 := of_decide_eq_true hb7
        rw [if_pos hp8] at hm
        refine WL.run rfl rfl rfl rfl hb7 rfl rfl (Op1.move (.tmp rfl)) ?_
        refine WL.run rfl rfl rfl rfl hb7 rfl rfl (Op1.lenS Try.underlying9 (.tmp rfl)) ?_
        refine WL.run rfl rfl rfl rfl hb7 rfl rfl (Op1.leI (.tmp rfl) (.int (inR64.2 (by omega)))) ?_
        refine WL.op rfl (Op1.pickT (.tmp rfl) hb7 (.tmp rfl)) ?_
        refine WL.mv rfl rfl ?_
        rcases bcases (decide ((parted.2.length : Int) ≤ (3 : Int))) with hb9 | hb9
        · have hp10 := of_decide_eq_true hb9
          rw [if_pos hp10] at hm
          refine WL.run rfl rfl rfl rfl hb9 rfl rfl (Op1.move (.tmp rfl)) ?_
          refine WL.run rfl rfl rfl rfl hb9 rfl rfl (Op1.move (.tmp rfl)) ?_
          obtain ⟨contai, hv11, hm⟩ := bind_some hm
          refine WL.run rfl rfl rfl rfl hb9 rfl rfl (Op1.call Try.call91 (strings_ContainsFunc_spec _ _ _ _ hv11) ⟨(.tmp rfl), (Opd.fnE (.tmp rfl) Try.call90 (fun s hs => label_Valid_1_spec _ _ hs)), trivial⟩) ?_
          refine WL.run rfl rfl rfl rfl hb9 rfl rfl (Op1.notB (.tmp rfl)) ?_
          refine WL.op rfl (Op1.pickT (.tmp rfl) hb9 (.tmp rfl)) ?_
          refine WL.gv rfl rfl ?_
          refine WL.ns ?_
          cases hm
          exact W.ret1 () rfl (.tmp rfl) trivial
        · have hp10 := of_decide_eq_false hb9
          rw [if_neg hp10] at hm
          refine WL.pass rfl rfl rfl rfl hb9 rfl rfl ?_
          refine WL.pass rfl rfl rfl rfl hb9 rfl rfl ?_
          refine WL.pass rfl rfl rfl rfl hb9 rfl rfl ?_
          refine WL.pass rfl rfl rfl rfl hb9 rfl rfl ?_
          refine WL.op rfl (Op1.pickF (.tmp rfl) hb9 .bool) ?_
          refine WL.gv rfl rfl ?_
          refine WL.ns ?_
          cases hm
          exact W.ret1 () rfl (.tmp rfl) trivial
      · have hp8 := of_decide_eq_false hb7
        rw [if_neg hp8] at hm
        refine WL.pass rfl rfl rfl rfl hb7 rfl rfl ?_
        refine WL.pass rfl rfl rfl rfl hb7 rfl rfl ?_
        refine WL.pass rfl rfl rfl rfl hb7 rfl rfl ?_
        refine WL.op rfl (Op1.pickF (.tmp rfl) hb7 .bool) ?_
        refine WL.mv rfl rfl ?_
        refine WL.pass rfl rfl rfl rfl rfl rfl rfl ?_
        refine WL.pass rfl rfl rfl rfl rfl rfl rfl ?_
        refine WL.pass rfl rfl rfl rfl rfl rfl rfl ?_
        refine WL.pass rfl rfl rfl rfl rfl rfl rfl ?_
        refine WL.op rfl (Op1.pickF (.tmp rfl) rfl .bool) ?_
        refine WL.gv rfl rfl ?_
        refine WL.ns ?_
        cases hm
        exact W.ret1 () rfl (.tmp rfl) trivial
    · have hp5 := of_decide_eq_false hb4
      rw [if_neg hp5] at hm
      refine WL.pass rfl rfl rfl rfl hb4 rfl rfl ?_
      refine WL.pass rfl rfl rfl rfl hb4 rfl rfl ?_
      refine WL.pass rfl rfl rfl rfl hb4 rfl rfl ?_
      refine WL.op rfl (Op1.pickF (.tmp rfl) hb4 .bool) ?_
      refine WL.mv rfl rfl ?_
      refine WL.pass rfl rfl rfl rfl rfl rfl rfl ?_
      refine WL.pass rfl rfl rfl rfl rfl rfl rfl ?_
      refine WL.pass rfl rfl rfl rfl rfl rfl rfl ?_
      refine WL.op rfl (Op1.pickF (.tmp rfl) rfl .bool) ?_
      refine WL.mv rfl rfl ?_
      refine WL.pass rfl rfl rfl rfl rfl rfl rfl ?_
      refine WL.pass rfl rfl rfl rfl rfl rfl rfl ?_
      refine WL.pass rfl rfl rfl rfl rfl rfl rfl ?_
      refine WL.pass rfl rfl rfl rfl rfl rfl rfl ?_
      refine WL.op rfl (Op1.pickF (.tmp rfl) rfl .bool) ?_
      refine WL.gv rfl rfl ?_
      refine WL.ns ?_
      cases hm
      exact W.ret1 () rfl (.tmp rfl) trivial
  · have hp3 := of_decide_eq_false hb2
    rw [if_neg hp3] at hm
    refine WL.pass rfl rfl rfl rfl hb2 rfl rfl ?_
    refine WL.pass rfl rfl rfl rfl hb2 rfl rfl ?_
    refine WL.pass rfl rfl rfl rfl hb2 rfl rfl ?_
    refine WL.op rfl (Op1.pickF (.tmp rfl) hb2 .bool) ?_
    refine WL.mv rfl rfl ?_
    refine WL.pass rfl rfl rfl rfl rfl rfl rfl ?_
    refine WL.pass rfl rfl rfl rfl rfl rfl rfl ?_
    refine WL.pass rfl rfl rfl rfl rfl rfl rfl ?_
    refine WL.op rfl (Op1.pickF (.tmp rfl) rfl .bool) ?_
    refine WL.mv rfl rfl ?_
    refine WL.pass rfl rfl rfl rfl rfl rfl rfl ?_
    refine WL.pass rfl rfl rfl rfl rfl rfl rfl ?_
    refine WL.pass rfl rfl rfl rfl rfl rfl rfl ?_
    refine WL.op rfl (Op1.pickF (.tmp rfl) rfl .bool) ?_
    refine WL.mv rfl rfl ?_
    refine WL.pass rfl rfl rfl rfl rfl rfl rfl ?_
    refine WL.pass rfl rfl rfl rfl rfl rfl rfl ?_
    refine WL.pass rfl rfl rfl rfl rfl rfl rfl ?_
    refine WL.pass rfl rfl rfl rfl rfl rfl rfl ?_
    refine WL.op rfl (Op1.pickF (.tmp rfl) rfl .bool) ?_
    refine WL.gv rfl rfl ?_
    refine WL.ns ?_
    cases hm
    exact W.ret1 () rfl (.tmp rfl) trivial

theorem address_Valid_spec (n : Nat) (p : List api_Step) (r : Bool) (hm : M.address_Valid n p = some r) : FSpec Try.prog 60 [((tL tapi_Step).is p)] (tB.is r) := by
  unfold M.address_Valid at hm
  refine FSpec.of Try.func60 rfl rfl rfl (fun g0 => ?_)
  refine W.sr ?_
  refine WL.op rfl (Op1.assign .bool) ?_
  refine WL.ns ?_
  refine W.seq ?_
  refine W.sr ?_
  refine WL.mv rfl rfl ?_
  refine WL.op rfl (Op1.lenL Try.underlying28 (.tmp rfl)) ?_
  refine WL.op rfl (Op1.move (.int (inR64.2 (by omega)))) ?_
  refine WL.ns ?_
  refine W.block ?_
  obtain ⟨s1, hs2, hk3⟩ := bind_some hm
  clear hm
  refine W.loop (fun m (s : Int × List api_Step × List api_Step × Unit) => m = s.2.2.1.length ∧ p = s.2.1 ++ s.2.2.1 ∧ s.1 = (s.2.1.length : Int) ∧ M.address_Valid_loop1 n s.2.2.1 s.1 = some s1) (fun s => [(7, ((tI .i64).is s.1)), (0, ((tL tapi_Step).is p)), (5, ((tL tapi_Step).is p)), (6, ((tI .i64).is (p.length : Int)))]) (fun s => []) p.length ((0 : Int), [], p, ()) ⟨rfl, rfl, rfl, hs2⟩ ⟨Ent.q rfl, Ent.q rfl, Ent.q rfl, Ent.q rfl, trivial⟩ trivial ?_
  rintro m ⟨i, pre, rest1, _⟩ ⟨hn7, hxs4, hi5, hm⟩
  try dsimp only at hn7 hxs4 hi5 hm
  change W _ _ _ _ _ _ _ [(7, ((tI .i64).is i)), (0, ((tL tapi_Step).is p)), (5, ((tL tapi_Step).is p)), (6, ((tI .i64).is (p.length : Int)))] []
  refine W.lenL (s := 5) (.tmp rfl) fun hlen6 => ?_
  refine W.sr ?_
  refine WL.op rfl (Op1.ltI (.tmp rfl) (.tmp rfl)) ?_
  refine WL.ns ?_
  refine W.seq ?_
  refine W.cond (.tmp rfl) (fun hc9 => ?_) (fun hc9 => ?_)
  · have hp10 := of_decide_eq_true hc9
    obtain ⟨e, es, hrest12⟩ := range_more hxs4 hi5 hp10
    subst hrest12
    rw [M.address_Valid_loop1.eq_2] at hm
    refine W.skip ?_
    refine WN.seq ?_
    refine W.seq ?_
    refine W.block ?_
    refine W.sr ?_
    refine WL.mv rfl rfl ?_
    refine WL.op rfl (Op1.idxPre hxs4 hi5 Try.underlying28 Try.sizeOf63 (.tmp rfl) (.tmp rfl)) ?_
    refine WL.op rfl (Op1.load ty63 (.tmp rfl)) ?_
    refine WL.opR rfl (OpR.alloc 4 ze63) (fun b => ?_)
    refine WL.gv rfl rfl ?_
    refine WL.opU (OpR.storeB (b := b) 4 Try.sizeOf63 (Cellable.is tapi_Step e) rfl (.tmp rfl) (.tmp rfl)) (fun _ => ?_)
    refine WL.sealed (t := tapi_Step) (u := e) 4 4 rfl rfl ?_
    refine WL.ns ?_
    refine W.seq ?_
    obtain ⟨s13, hs14, hk15⟩ := bind_some hm
    clear hm
    refine W.join (fun s : Bool => s = s13) (fun s => [(17, (tB.is s)), (0, ((tL tapi_Step).is p)), (4, (tapi_Step.ptr e)), (5, ((tL tapi_Step).is p)), (6, ((tI .i64).is (p.length : Int))), (7, ((tI .i64).is i))]) (fun s => []) ?_ ?_
    · rintro v hj31
      try dsimp only at hj31
      subst hj31
      have hm := hk15
      clear hk15
      try dsimp only at hm
      change W _ _ _ _ _ _ _ [(17, (tB.is v)), (0, ((tL tapi_Step).is p)), (4, (tapi_Step.ptr e)), (5, ((tL tapi_Step).is p)), (6, ((tI .i64).is (p.length : Int))), (7, ((tI .i64).is i))] []
      refine W.cond (.tmp rfl) (fun hc19 => ?_) (fun hc19 => ?_)
      · have hp20 := hc19
        rw [if_pos hp20] at hm
        refine W.exit rfl ?_
        refine WN.seq ?_
        refine W.region ?_
        refine WL.op rfl (Op1.addI (.tmp rfl) (.int (inR64.2 (by omega))) (range_inR hi5 hp10 hlen6)) ?_
        refine WL.mv rfl rfl ?_
        refine WL.nil ?_
        exact WN.again es.length (i + 1, pre ++ [e], es, ()) (range_lt hn7) ⟨rfl, range_step hxs4, range_idx hi5, hm⟩ ⟨Ent.q rfl, Ent.q rfl, Ent.q rfl, Ent.q rfl, trivial⟩ trivial
      · have hp20 := ne_of_false hc19
        rw [if_neg hp20] at hm
        refine W.skip ?_
        refine WN.seq ?_
        refine W.sr ?_
        refine WL.op rfl (Op1.fieldAddr Try.underlying63 rfl (fun w => ⟨0, Try.sizeOf3 w⟩) fapi_Step_0 (.tmp rfl)) ?_
        refine WL.op rfl (Op1.load ty3 (.tmp rfl)) ?_
        refine WL.op rfl (Op1.leI (.tmp rfl) (.int (inR64.2 (by omega)))) ?_
        refine WL.mv rfl rfl ?_
        rcases bcases (decide (e.Kind ≤ (0 : Int))) with hb21 | hb21
        · have hp22 := of_decide_eq_true hb21
          rw [if_pos hp22] at hm
          refine WL.pass rfl rfl rfl rfl hb21 rfl rfl ?_
          refine WL.pass rfl rfl rfl rfl hb21 rfl rfl ?_
          refine WL.pass rfl rfl rfl rfl hb21 rfl rfl ?_
          refine WL.op rfl (Op1.pickT (.tmp rfl) hb21 .bool) ?_
          refine WL.mv rfl rfl ?_
          refine WL.pass rfl rfl rfl rfl rfl rfl rfl ?_
          refine WL.pass rfl rfl rfl rfl rfl rfl rfl ?_
          refine WL.pass rfl rfl rfl rfl rfl rfl rfl ?_
          refine WL.pass rfl rfl rfl rfl rfl rfl rfl ?_
          refine WL.op rfl (Op1.pickT (.tmp rfl) rfl .bool) ?_
          refine WL.ns ?_
          refine W.condT (.tmp rfl) ?_
          refine W.sr ?_
          refine WL.op rfl (Op1.assign .bool) ?_
          refine WL.ns ?_
          have hr23 := Option.some.inj hm
          clear hm
          subst hr23
          have hm := hk3
          try dsimp only at hm
          cases hm
          exact W.ret1 () rfl (.tmp rfl) trivial
        · have hp22 := of_decide_eq_false hb21
          rw [if_neg hp22] at hm
          refine WL.run rfl rfl rfl rfl hb21 rfl rfl (Op1.fieldAddr Try.underlying63 rfl (fun w => ⟨0, Try.sizeOf3 w⟩) fapi_Step_0 (.tmp rfl)) ?_
          refine WL.run rfl rfl rfl rfl hb21 rfl rfl (Op1.load ty3 (.tmp rfl)) ?_
          refine WL.run rfl rfl rfl rfl hb21 rfl rfl (Op1.gtI (.tmp rfl) (.int (inR64.2 (by omega)))) ?_
          refine WL.op rfl (Op1.pickF (.tmp rfl) hb21 (.tmp rfl)) ?_
          refine WL.mv rfl rfl ?_
          rcases bcases (decide ((7 : Int) < e.Kind)) with hb24 | hb24
          · have hp25 := of_decide_eq_true hb24
            rw [if_pos hp25] at hm
            refine WL.pass rfl rfl rfl rfl hb24 rfl rfl ?_
            refine WL.pass rfl rfl rfl rfl hb24 rfl rfl ?_
            refine WL.pass rfl rfl rfl rfl hb24 rfl rfl ?_
            refine WL.pass rfl rfl rfl rfl hb24 rfl rfl ?_
            refine WL.op rfl (Op1.pickT (.tmp rfl) hb24 .bool) ?_
            refine WL.ns ?_
            refine W.condT (.tmp rfl) ?_
            refine W.sr ?_
            refine WL.op rfl (Op1.assign .bool) ?_
            refine WL.ns ?_
            have hr26 := Option.some.inj hm
            clear hm
            subst hr26
            have hm := hk3
            try dsimp only at hm
            cases hm
            exact W.ret1 () rfl (.tmp rfl) trivial
          · have hp25 := of_decide_eq_false hb24
            rw [if_neg hp25] at hm
            refine WL.run rfl rfl rfl rfl hb24 rfl rfl (Op1.fieldAddr Try.underlying63 rfl (fun w => ⟨0, Try.sizeOf9 w⟩) fapi_Step_1 (.tmp rfl)) ?_
            refine WL.run rfl rfl rfl rfl hb24 rfl rfl (Op1.load ty9 (.tmp rfl)) ?_
            obtain ⟨valid, hv27, hm⟩ := bind_some hm
            refine WL.run rfl rfl rfl rfl hb24 rfl rfl (Op1.call Try.call77 (label_Valid_spec _ _ _ hv27) ⟨(.tmp rfl), trivial⟩) ?_
            refine WL.run rfl rfl rfl rfl hb24 rfl rfl (Op1.notB (.tmp rfl)) ?_
            refine WL.op rfl (Op1.pickF (.tmp rfl) hb24 (.tmp rfl)) ?_
            refine WL.ns ?_
            refine W.cond (.tmp rfl) (fun hc28 => ?_) (fun hc28 => ?_)
            · have hp29 := not_pos hc28
              rw [if_pos hp29] at hm
              refine W.sr ?_
              refine WL.op rfl (Op1.assign .bool) ?_
              refine WL.ns ?_
              have hr30 := Option.some.inj hm
              clear hm
              subst hr30
              have hm := hk3
              try dsimp only at hm
              cases hm
              exact W.ret1 () rfl (.tmp rfl) trivial
            · have hp29 := not_neg hc28
              rw [if_neg hp29] at hm
              refine W.skip ?_
              refine WN.block ?_
              refine WN.seq ?_
              refine W.region ?_
              refine WL.op rfl (Op1.addI (.tmp rfl) (.int (inR64.2 (by omega))) (range_inR hi5 hp10 hlen6)) ?_
              refine WL.mv rfl rfl ?_
              refine WL.nil ?_
              exact WN.again es.length (i + 1, pre ++ [e], es, ()) (range_lt hn7) ⟨rfl, range_step hxs4, range_idx hi5, hm⟩ ⟨Ent.q rfl, Ent.q rfl, Ent.q rfl, Ent.q rfl, trivial⟩ trivial
    · have hm := hs14
      clear hs14
      refine W.region ?_
      refine WL.mv rfl rfl ?_
      refine WL.op rfl (Op1.eqI (.tmp rfl) (.int (inR64.2 (by omega)))) ?_
      refine WL.mv rfl rfl ?_
      rcases bcases (decide (i = (0 : Int))) with hb16 | hb16
      · have hp17 := of_decide_eq_true hb16
        rw [if_pos hp17] at hm
        refine WL.run rfl rfl rfl rfl hb16 rfl rfl (Op1.load ty63 (.tmp rfl)) ?_
        obtain ⟨book, hv18, hm⟩ := bind_some hm
        refine WL.run rfl rfl rfl rfl hb16 rfl rfl (Op1.call Try.call62 (address_book_spec _ _ hv18) ⟨(.tmp rfl), trivial⟩) ?_
        refine WL.op rfl (Op1.pickT (.tmp rfl) hb16 (.tmp rfl)) ?_
        refine WL.nil ?_
        exact WN.meet book (Option.some.inj hm) ⟨Ent.q rfl, Ent.q rfl, Ent.q rfl, Ent.q rfl, Ent.q rfl, Ent.q rfl, trivial⟩ trivial
      · have hp17 := of_decide_eq_false hb16
        rw [if_neg hp17] at hm
        refine WL.pass rfl rfl rfl rfl hb16 rfl rfl ?_
        refine WL.pass rfl rfl rfl rfl hb16 rfl rfl ?_
        refine WL.op rfl (Op1.pickF (.tmp rfl) hb16 .bool) ?_
        refine WL.nil ?_
        exact WN.meet false (Option.some.inj hm) ⟨Ent.q rfl, Ent.q rfl, Ent.q rfl, Ent.q rfl, Ent.q rfl, Ent.q rfl, trivial⟩ trivial
  · have hrest12 := range_end hxs4 hi5 (of_decide_eq_false hc9)
    subst hrest12
    rw [M.address_Valid_loop1.eq_1] at hm
    refine W.exit rfl ?_
    have hr32 := Option.some.inj hm
    clear hm
    subst hr32
    have hm := hk3
    try dsimp only at hm
    refine WN.seq ?_
    refine W.sr ?_
    refine WL.mv rfl rfl ?_
    refine WL.op rfl (Op1.lenL Try.underlying28 (.tmp rfl)) ?_
    refine WL.op rfl (Op1.leI (.tmp rfl) (.int (inR64.2 (by omega)))) ?_
    refine WL.gv rfl rfl ?_
    refine WL.ns ?_
    cases hm
    exact W.ret1 () rfl (.tmp rfl) trivial

theorem address_called_spec (u : api_Unit) (s0_ : api_Step) (r : Bool) (hm : M.address_called u s0_ = some r) : FSpec Try.prog 66 [(tapi_Unit.is u), (tapi_Step.is s0_)] (tB.is r) := by
  unfold M.address_called at hm
  refine FSpec.of Try.func66 rfl rfl rfl (fun g0 => ?_)
  refine W.sr ?_
  refine WL.op rfl (Op1.box (.tmp rfl)) ?_
  refine WL.op rfl (Op1.box (.tmp rfl)) ?_
  refine WL.op rfl (Op1.assign .bool) ?_
  refine WL.nr ?_
  refine WL.op rfl (Op1.fieldAddr Try.underlying27 rfl (fun w => ⟨0, Try.sizeOf3 w⟩) fapi_Unit_1 (.tmp rfl)) ?_
  refine WL.op rfl (Op1.load ty3 (.tmp rfl)) ?_
  refine WL.op rfl (Op1.fieldAddr Try.underlying63 rfl (fun w => ⟨0, Try.sizeOf3 w⟩) fapi_Step_0 (.tmp rfl)) ?_
  refine WL.op rfl (Op1.load ty3 (.tmp rfl)) ?_
  refine WL.op rfl (Op1.eqI (.tmp rfl) (.tmp rfl)) ?_
  refine WL.mv rfl rfl ?_
  rcases bcases (decide (u.Kind = s0_.Kind)) with hb1 | hb1
  · have hp2 := of_decide_eq_true hb1
    rw [if_pos hp2] at hm
    refine WL.run rfl rfl rfl rfl hb1 rfl rfl (Op1.fieldAddr Try.underlying27 rfl (fun w => ⟨0, Try.sizeOf9 w⟩) fapi_Unit_2 (.tmp rfl)) ?_
    refine WL.run rfl rfl rfl rfl hb1 rfl rfl (Op1.load ty9 (.tmp rfl)) ?_
    refine WL.run rfl rfl rfl rfl hb1 rfl rfl (Op1.fieldAddr Try.underlying63 rfl (fun w => ⟨0, Try.sizeOf9 w⟩) fapi_Step_1 (.tmp rfl)) ?_
    refine WL.run rfl rfl rfl rfl hb1 rfl rfl (Op1.load ty9 (.tmp rfl)) ?_
    refine WL.run rfl rfl rfl rfl hb1 rfl rfl (Op1.eqS (.tmp rfl) (.tmp rfl)) ?_
    refine WL.op rfl (Op1.pickT (.tmp rfl) hb1 (.tmp rfl)) ?_
    refine WL.gv rfl rfl ?_
    refine WL.ns ?_
    cases hm
    exact W.ret1 () rfl (.tmp rfl) trivial
  · have hp2 := of_decide_eq_false hb1
    rw [if_neg hp2] at hm
    refine WL.pass rfl rfl rfl rfl hb1 rfl rfl ?_
    refine WL.pass rfl rfl rfl rfl hb1 rfl rfl ?_
    refine WL.pass rfl rfl rfl rfl hb1 rfl rfl ?_
    refine WL.pass rfl rfl rfl rfl hb1 rfl rfl ?_
    refine WL.pass rfl rfl rfl rfl hb1 rfl rfl ?_
    refine WL.op rfl (Op1.pickF (.tmp rfl) hb1 .bool) ?_
    refine WL.gv rfl rfl ?_
    refine WL.ns ?_
    cases hm
    exact W.ret1 () rfl (.tmp rfl) trivial

theorem address_found_1_spec (x : api_Unit) (c : List api_Step) (c1 : List api_Unit) (b : Nat) (k : Tok) (r : List api_Unit) (hm : M.address_found_1 x c c1 = some r) : FSpecR Try.prog 65 [(tapi_Unit.is x), ((tL tapi_Step).ptr c), (Bp b 0)] [(2, (Bx 1 false 25 (tO tapi_Unit k c1) b)), (1000002, Own tapi_Unit 27 k c1.length)] (fun kx : Tok => (Asn.eq (.tuple #[]))) (fun kx : Tok => [(2, (Bx 1 false 25 (tO tapi_Unit kx r) b)), (1000002, Own tapi_Unit 27 kx r.length)]) := by
  unfold M.address_found_1 at hm
  refine FSpecR.of Try.func65 rfl rfl rfl (fun g0 => ?_)
  refine W.sr ?_
  refine WL.op rfl (Op1.box (.tmp rfl)) ?_
  refine WL.ns ?_
  refine W.seq ?_
  obtain ⟨v, hv1, hm⟩ := bind_some hm
  obtain ⟨called, hv2, hm⟩ := bind_some hm
  refine W.draw [.c (tapi_Unit.is x), .c ((tL tapi_Step).is c), .c (tapi_Step.ptr v), .c (tapi_Step.is v), .c (tB.is called)] [([], [3]), ([], [1]), ([1], []), ([2], []), ([0, 3], [])] Try.mixed rfl rfl rfl rfl ⟨.inr (Op1.load ty27 (.tmp rfl)), .inr (Op1.load ty28 (.tmp rfl)), .inr (Op1.idx hv1 Try.underlying28 Try.sizeOf63 (.tmp rfl) (.int (inR64.2 (by omega)))), .inr (Op1.load ty63 (.tmp rfl)), .inr (Op1.call Try.call66 (address_called_spec _ _ _ hv2) ⟨(.tmp rfl), (.tmp rfl), trivial⟩), trivial⟩ ?_
  refine WN.seq ?_
  refine W.cond (.tmp rfl) (fun hc3 => ?_) (fun hc3 => ?_)
  · have hp4 := hc3
    rw [if_pos hp4] at hm
    obtain ⟨out, hv5, hm⟩ := bind_some hm
    refine W.weakR (res' := [(1000002, Own tapi_Unit 27 k c1.length), (2, (Bx 1 false 25 (tO tapi_Unit k c1) b))]) ⟨rfl, rfl, ⟨rfl, rfl, trivial⟩⟩ ?_
    refine W.drawS [.c (tO tapi_Unit k c1), .c (tapi_Unit.is x), .c ((tI .i64).is (c1.length : Int)), .c ((tL tapi_Unit).is ([(⟨(⟨(0 : Int), (0 : Int), (0 : Int)⟩ : api_Id), (0 : Int), ([] : Str), ([] : List api_Word), ([] : List api_Word), ([] : List api_Unit)⟩ : api_Unit)])), .f (fun cv => (rawS (cv 0) (c1.length + 1))), .f (fun cv => (Bp (bk (cv 0)) (c1.length * tapi_Unit.size))), .c Asn.any, .c Asn.any] [([], [2]), ([], [3]), ([0], []), ([], []), ([0, 3], []), ([2, 4], []), ([1, 5], []), ([4], [2])] [4, 6, 7] [[], [], [], [], [true], [true], [], []] (fun mk cv => match mk with | [false, false, false] => [(1000002, Own tapi_Unit 27 k c1.length), (2, (Bx 1 false 25 (tO tapi_Unit k c1) b))] | [true, false, false] => [(1000002, Resv tapi_Unit 27 (cv 0) c1), (2, (Bx 1 false 25 (tO tapi_Unit k c1) b))] | [true, true, false] => [(1000002, Grown tapi_Unit 27 (cv 0) out), (2, (Bx 1 false 25 (tO tapi_Unit k c1) b))] | [true, false, true] => [(1000002, Resv tapi_Unit 27 (cv 0) c1), (2, (Bx 1 false 25 (rawS (cv 0) (c1.length + 1)) b))] | _ => [(1000002, Grown tapi_Unit 27 (cv 0) out), (2, (Bx 1 false 25 (rawS (cv 0) (c1.length + 1)) b))]) (fun _ => none) Try.mixed rfl rfl rfl rfl rfl ⟨fun _ _ _ _ => rfl, ⟨fun _ _ _ _ => rfl, ⟨fun _ _ _ _ => rfl, ⟨fun _ _ _ _ => rfl, ⟨fun m hm c t => by simp only [DA.at, upd_dep (r := [true]) (j := 0) rfl hm], ⟨fun m hm c t => by simp only [DA.at, upd_dep (r := [true]) (j := 0) rfl hm], ⟨fun _ _ _ _ => rfl, ⟨fun _ _ _ _ => rfl, trivial⟩⟩⟩⟩⟩⟩⟩⟩ rfl ⟨.inr ⟨fun cv => [(2, (Bx 1 false 25 (tO tapi_Unit k c1) b))], ⟨fun _ _ => ⟨rfl, rfl, trivial⟩, fun hw => absurd hw (by decide), fun hw => absurd hw (by decide), fun hw => absurd hw (by decide), fun hw => absurd hw (by decide), fun hw => absurd hw (by decide), fun hw => absurd hw (by decide), fun hw => absurd hw (by decide), trivial⟩, fun cv => Op1.loadB 2 Try.isAgg25 Try.sizeOf25 rfl (.tmp rfl)⟩, ⟨.inr ⟨fun cv => [], (AllIn.all (fun _ _ _ => trivial) _), fun cv => Op1.load ty27 (.tmp rfl)⟩, ⟨.inr ⟨fun cv => [], (AllIn.all (fun _ _ _ => trivial) _), fun cv => Op1.lenL Try.underlying25 (Opd.own (.tmp rfl))⟩, ⟨.inr ⟨fun cv => [], (AllIn.all (fun _ _ _ => trivial) _), fun cv => Op1.buildSlice (n := 1) (ys := [(0, (⟨(⟨(0 : Int), (0 : Int), (0 : Int)⟩ : api_Id), (0 : Int), ([] : Str), ([] : List api_Word), ([] : List api_Word), ([] : List api_Unit)⟩ : api_Unit))]) (z := zapi_Unit) (xs := [(⟨(⟨(0 : Int), (0 : Int), (0 : Int)⟩ : api_Id), (0 : Int), ([] : Str), ([] : List api_Word), ([] : List api_Word), ([] : List api_Unit)⟩ : api_Unit)]) Try.underlying25 el27 ze27 ⟨rfl, (fun _ _ _ => ⟨_, (rapi_Unit.into.rep _ _ _ ⟨_, _, rfl, ⟨_, _, rfl, ⟨rfl, inR64.2 ⟨by decide, by decide⟩⟩, ⟨_, _, rfl, ⟨rfl, inR64.2 ⟨by decide, by decide⟩⟩, ⟨rfl, inR64.2 ⟨by decide, by decide⟩⟩⟩⟩, ⟨_, _, rfl, ⟨rfl, inR64.2 ⟨by decide, by decide⟩⟩, ⟨_, _, rfl, ⟨rfl, by decide⟩, ⟨_, _, rfl, ⟨none, 0, rfl, Nat.le_refl _, Nat.zero_le _, fun _ => rfl, rfl⟩, ⟨_, _, rfl, ⟨none, 0, rfl, Nat.le_refl _, Nat.zero_le _, fun _ => rfl, rfl⟩, ⟨none, 0, rfl, Nat.le_refl _, Nat.zero_le _, fun _ => rfl, rfl⟩⟩⟩⟩⟩⟩), rfl⟩), trivial⟩ (by simp) (by decide) rfl⟩, ⟨.inl rfl, ⟨.inr ⟨fun cv => [], (AllIn.all (fun _ _ _ => trivial) _), fun cv => Op1.rawIdx (t := tapi_Unit) Try.underlying25 Try.sizeOf27 (.tmp rfl) (.tmp rfl)⟩, ⟨.inl rfl, ⟨.inl rfl, trivial⟩⟩⟩⟩⟩⟩⟩⟩ ⟨⟨_, _, _, rfl, rfl, rfl, rfl, ⟨fun _ _ => ⟨[1000002], (fun cv => [(1000002, Resv tapi_Unit 27 (cv 0) c1)]), (fun cv => ⟨rfl, rfl, ⟨rfl, rfl, trivial⟩⟩), (fun _ _ => rfl), fun cv => OpR.appendZC (key := 1000002) hv5 Try.underlying25 el27 (.tmp rfl) (.tmp rfl) rfl⟩, fun h _ => absurd h (by decide), fun _ h => absurd h (by decide), fun h _ => absurd h (by decide), fun _ h => absurd h (by decide), fun h _ => absurd h (by decide), fun _ h => absurd h (by decide), fun h _ => absurd h (by decide), trivial⟩⟩, ⟨⟨_, _, _, rfl, rfl, rfl, rfl, ⟨fun _ h => absurd h (by decide), fun _ _ => ⟨[1000002], (fun cv => [(1000002, Grown tapi_Unit 27 (cv 0) out)]), (fun cv => ⟨rfl, rfl, ⟨rfl, rfl, trivial⟩⟩), (fun _ _ => rfl), fun cv => OpR.viaU (OpR.storeEl (k := (cv 0)) (key := 1000002) hv5 ty27 (.tmp rfl) (.tmp rfl) rfl)⟩, fun h _ => absurd h (by decide), fun h _ => absurd h (by decide), fun _ h => absurd h (by decide), fun _ _ => ⟨[1000002], (fun cv => [(1000002, Grown tapi_Unit 27 (cv 0) out)]), (fun cv => ⟨rfl, rfl, ⟨rfl, rfl, trivial⟩⟩), (fun _ _ => rfl), fun cv => OpR.viaU (OpR.storeEl (k := (cv 0)) (key := 1000002) hv5 ty27 (.tmp rfl) (.tmp rfl) rfl)⟩, fun h _ => absurd h (by decide), fun h _ => absurd h (by decide), trivial⟩⟩, ⟨⟨_, _, _, rfl, rfl, rfl, rfl, ⟨fun _ h => absurd h (by decide), fun _ _ => ⟨[2], (fun cv => [(2, (Bx 1 false 25 (rawS (cv 0) (c1.length + 1)) b))]), (fun cv => ⟨rfl, rfl, ⟨rfl, rfl, trivial⟩⟩), (fun _ _ => rfl), fun cv => OpR.viaU (OpR.storeB (b := b) 2 Try.sizeOf25 (Cellable.raw (cv 0) _) rfl (.tmp rfl) (.tmp rfl))⟩, fun _ h => absurd h (by decide), fun _ _ => ⟨[2], (fun cv => [(2, (Bx 1 false 25 (rawS (cv 0) (c1.length + 1)) b))]), (fun cv => ⟨rfl, rfl, ⟨rfl, rfl, trivial⟩⟩), (fun _ _ => rfl), fun cv => OpR.viaU (OpR.storeB (b := b) 2 Try.sizeOf25 (Cellable.raw (cv 0) _) rfl (.tmp rfl) (.tmp rfl))⟩, fun h _ => absurd h (by decide), fun h _ => absurd h (by decide), fun h _ => absurd h (by decide), fun h _ => absurd h (by decide), trivial⟩⟩, trivial⟩⟩⟩ (fun cv => ?_)
    refine WN.grown 2 1000002 (by decide) rfl rfl (appC_len hv5) ?_
    have hr := Option.some.inj hm
    clear hm
    subst hr
    exact WN.fin (cv 0) rfl (fun _ => rfl) ⟨rfl, rfl, ⟨rfl, rfl, trivial⟩⟩
  · have hp4 := ne_of_false hc3
    rw [if_neg hp4] at hm
    refine W.skip ?_
    have hr := Option.some.inj hm
    clear hm
    subst hr
    exact WN.fin k rfl (fun _ => rfl) ⟨rfl, rfl, ⟨rfl, rfl, trivial⟩⟩

theorem address_each_i0_spec : ∀ (n : Nat) (u : api_Unit) (c : List api_Step) (c1 : List api_Unit) (b : Nat) (k : Tok) (r : List api_Unit), M.address_each_i0 n u c c1 = some r → FSpecR Try.prog 64 [(tapi_Unit.is u), (cloA 65 [((tL tapi_Step).ptr c), (Bp b 0)])] [(500101, (Bx 1 false 25 (tO tapi_Unit k c1) b)), (1500101, Own tapi_Unit 27 k c1.length)] (fun kx : Tok => (Asn.eq (.tuple #[]))) (fun kx : Tok => [(500101, (Bx 1 false 25 (tO tapi_Unit kx r) b)), (1500101, Own tapi_Unit 27 kx r.length)]) := by
  intro n
  induction n with
  | zero => intro u c c1 b k r hm; cases hm
  | succ n ih =>
    intro u c c1 b k r hm
    rw [M.address_each_i0.eq_2] at hm
    refine FSpecR.of Try.func64 rfl rfl rfl (fun g0 => ?_)
    refine W.sr ?_
    refine WL.op rfl (Op1.box (.tmp rfl)) ?_
    refine WL.nr ?_
    refine WL.mv rfl rfl ?_
    refine WL.op rfl (Op1.load ty27 (.tmp rfl)) ?_
    obtain ⟨w, hv1, hm⟩ := bind_some hm
    refine WL.weakR (res' := [(500101, (Bx 1 false 25 (tO tapi_Unit k c1) b)), (1500101, Own tapi_Unit 27 k c1.length)]) ⟨rfl, rfl, ⟨rfl, rfl, trivial⟩⟩ ?_
    refine WL.opR rfl (OpR.callClo (us := [500101, 1500101]) (A := fun kx : Tok => (Asn.eq (.tuple #[]))) (As := [tapi_Unit.is u]) Try.call65 (.tmp rfl) (FSpecR.keys (rin' := [(500101, (Bx 1 false 25 (tO tapi_Unit k c1) b)), (1500101, Own tapi_Unit 27 k c1.length)]) (out' := fun kx : Tok => [(500101, (Bx 1 false 25 (tO tapi_Unit kx w) b)), (1500101, Own tapi_Unit 27 kx w.length)]) (address_found_1_spec _ _ _ _ _ _ hv1) rfl (fun _ => rfl)) rfl ⟨(.tmp rfl), trivial⟩) (fun k1 => ?_)
    refine WL.nr ?_
    refine WL.op rfl (Op1.fieldAddr Try.underlying27 rfl (fun w => ⟨0, Try.sizeOf25 w⟩) fapi_Unit_5 (.tmp rfl)) ?_
    refine WL.op rfl (Op1.load ty25 (.tmp rfl)) ?_
    refine WL.op rfl (Op1.lenL Try.underlying25 (.tmp rfl)) ?_
    refine WL.op rfl (Op1.move (.int (inR64.2 (by omega)))) ?_
    refine WL.ns ?_
    refine W.block ?_
    obtain ⟨s2, hs3, hk4⟩ := bind_some hm
    clear hm
    refine W.loop (fun m (s : Int × List api_Unit × List api_Unit × (((List api_Unit)) × Tok)) => m = s.2.2.1.length ∧ u.Kids = s.2.1 ++ s.2.2.1 ∧ s.1 = (s.2.1.length : Int) ∧ M.address_each_i0_loop1 c (M.address_each_i0 n) s.2.2.1 s.2.2.2.1 = some s2) (fun s => [(12, ((tI .i64).is s.1)), (1, (cloA 65 [((tL tapi_Step).ptr c), (Bp b 0)])), (10, ((tL tapi_Unit).is u.Kids)), (11, ((tI .i64).is (u.Kids.length : Int)))]) (fun s => [(1500101, Own tapi_Unit 27 s.2.2.2.2 s.2.2.2.1.length), (500101, (Bx 1 false 25 (tO tapi_Unit s.2.2.2.2 s.2.2.2.1) b))]) u.Kids.length ((0 : Int), [], u.Kids, (w, k1)) ⟨rfl, rfl, rfl, hs3⟩ ⟨Ent.q rfl, Ent.q rfl, Ent.q rfl, Ent.q rfl, trivial⟩ ⟨rfl, rfl, ⟨rfl, rfl, trivial⟩⟩ ?_
    rintro m ⟨i, pre, rest1, ⟨v, k2⟩⟩ ⟨hn8, hxs5, hi6, hm⟩
    try dsimp only at hn8 hxs5 hi6 hm
    change W _ _ _ _ _ _ _ [(12, ((tI .i64).is i)), (1, (cloA 65 [((tL tapi_Step).ptr c), (Bp b 0)])), (10, ((tL tapi_Unit).is u.Kids)), (11, ((tI .i64).is (u.Kids.length : Int)))] [(1500101, Own tapi_Unit 27 k2 v.length), (500101, (Bx 1 false 25 (tO tapi_Unit k2 v) b))]
    refine W.lenL (s := 10) (.tmp rfl) fun hlen7 => ?_
    refine W.sr ?_
    refine WL.op rfl (Op1.ltI (.tmp rfl) (.tmp rfl)) ?_
    refine WL.ns ?_
    refine W.seq ?_
    refine W.cond (.tmp rfl) (fun hc10 => ?_) (fun hc10 => ?_)
    · have hp11 := of_decide_eq_true hc10
      obtain ⟨e, es, hrest13⟩ := range_more hxs5 hi6 hp11
      subst hrest13
      rw [M.address_each_i0_loop1.eq_2] at hm
      refine W.skip ?_
      refine WN.seq ?_
      refine W.seq ?_
      refine W.block ?_
      refine W.sr ?_
      refine WL.op rfl (Op1.idxPre hxs5 hi6 Try.underlying25 Try.sizeOf27 (.tmp rfl) (.tmp rfl)) ?_
      refine WL.op rfl (Op1.load ty27 (.tmp rfl)) ?_
      refine WL.opR rfl (OpR.alloc 5 ze27) (fun b1 => ?_)
      refine WL.opU (OpR.storeB (b := b1) 5 Try.sizeOf27 (Cellable.is tapi_Unit e) rfl (.tmp rfl) (.tmp rfl)) (fun _ => ?_)
      refine WL.sealed (t := tapi_Unit) (u := e) 5 5 rfl rfl ?_
      refine WL.nr1 ?_
      refine WL.op rfl (Op1.load ty27 (.tmp rfl)) ?_
      refine WL.mv rfl rfl ?_
      obtain ⟨w1, hv14, hm⟩ := bind_some hm
      refine WL.weakR (res' := [(500101, (Bx 1 false 25 (tO tapi_Unit k2 v) b)), (1500101, Own tapi_Unit 27 k2 v.length)]) ⟨rfl, rfl, ⟨rfl, rfl, trivial⟩⟩ ?_
      refine WL.opR rfl (OpR.call (us := [500101, 1500101]) (A := fun kx : Tok => (Asn.eq (.tuple #[]))) Try.call64 (FSpecR.keys (rin' := [(500101, (Bx 1 false 25 (tO tapi_Unit k2 v) b)), (1500101, Own tapi_Unit 27 k2 v.length)]) (out' := fun kx : Tok => [(500101, (Bx 1 false 25 (tO tapi_Unit kx w1) b)), (1500101, Own tapi_Unit 27 kx w1.length)]) (ih _ _ _ _ _ _ hv14) rfl (fun _ => rfl)) rfl ⟨(.tmp rfl), (.tmp rfl), trivial⟩) (fun k3 => ?_)
      refine WL.nil ?_
      refine WN.block ?_
      refine WN.seq ?_
      refine W.region ?_
      refine WL.op rfl (Op1.addI (.tmp rfl) (.int (inR64.2 (by omega))) (range_inR hi6 hp11 hlen7)) ?_
      refine WL.mv rfl rfl ?_
      refine WL.nil ?_
      exact WN.again es.length (i + 1, pre ++ [e], es, (w1, k3)) (range_lt hn8) ⟨rfl, range_step hxs5, range_idx hi6, hm⟩ ⟨Ent.q rfl, Ent.q rfl, Ent.q rfl, Ent.q rfl, trivial⟩ ⟨rfl, rfl, ⟨rfl, rfl, trivial⟩⟩
    · have hrest13 := range_end hxs5 hi6 (of_decide_eq_false hc10)
      subst hrest13
      rw [M.address_each_i0_loop1.eq_1] at hm
      refine W.exit rfl ?_
      have hr15 := Option.some.inj hm
      clear hm
      subst hr15
      have hm := hk4
      try dsimp only at hm
      have hr := Option.some.inj hm
      clear hm
      subst hr
      exact WN.fin k2 rfl (fun _ => rfl) ⟨rfl, rfl, ⟨rfl, rfl, trivial⟩⟩

theorem address_found_spec (n : Nat) (u : api_Unit) (p : List api_Step) (r : (List api_Unit)) (hm : M.address_found n u p = some r) : FSpec Try.prog 40 [(tapi_Unit.is u), ((tL tapi_Step).is p)] ((tL tapi_Unit).is r) := by
  unfold M.address_found at hm
  refine FSpec.of Try.func40 rfl rfl rfl (fun g0 => ?_)
  refine W.sr ?_
  refine WL.op rfl (Op1.box (.tmp rfl)) ?_
  refine WL.op rfl (Op1.box (.tmp rfl)) ?_
  refine WL.op rfl (Op1.assign (.nil (t := tapi_Unit))) ?_
  refine WL.ns ?_
  refine W.seq ?_
  refine W.sr ?_
  refine WL.op rfl (Op1.load ty28 (.tmp rfl)) ?_
  obtain ⟨valid, hv1, hm⟩ := bind_some hm
  refine WL.op rfl (Op1.call Try.call60 (address_Valid_spec _ _ _ hv1) ⟨(.tmp rfl), trivial⟩) ?_
  refine WL.op rfl (Op1.notB (.tmp rfl)) ?_
  refine WL.ns ?_
  refine W.cond (.tmp rfl) (fun hc2 => ?_) (fun hc2 => ?_)
  · have hp3 := not_pos hc2
    rw [if_pos hp3] at hm
    refine W.sr ?_
    refine WL.op rfl (Op1.assign (.nil (t := tapi_Unit))) ?_
    refine WL.ns ?_
    cases hm
    exact W.ret1 () rfl (.tmp rfl) trivial
  · have hp3 := not_neg hc2
    rw [if_neg hp3] at hm
    refine W.skip ?_
    refine WN.seq ?_
    refine W.sr ?_
    refine WL.addNil (t := tapi_Unit) (E := 27) 1000005 ?_
    refine WL.opR rfl (OpR.allocO (t := tapi_Unit) 5 Try.zeroValue25) (fun b => ?_)
    refine WL.ns ?_
    obtain ⟨s4, hs5, hk6⟩ := bind_some hm
    clear hm
    refine W.join (fun s : (List api_Unit) => (Sum.inl s : ((List api_Unit)) ⊕ ((List api_Unit))) = s4) (fun s => [(3, ((tL tapi_Step).ptr p)), (5, (Bp b 0))]) (fun s => [(5, (Bx 1 false 25 ((tL tapi_Unit).is s) b))]) ?_ ?_
    · rintro at0_ hj59
      try dsimp only at hj59
      subst hj59
      have hm := hk6
      clear hk6
      try dsimp only at hm
      change W _ _ _ _ _ _ _ [(3, ((tL tapi_Step).ptr p)), (5, (Bp b 0))] [(5, (Bx 1 false 25 ((tL tapi_Unit).is at0_) b))]
      refine W.seq ?_
      refine W.sr ?_
      refine WL.op rfl (Op1.load ty28 (.tmp rfl)) ?_
      obtain ⟨v1, hv15, hm⟩ := bind_some hm
      refine WL.op rfl (Op1.slcLo hv15 Try.underlying28 Try.sizeOf63 (.tmp rfl) (.int (inR64.2 (by omega)))) ?_
      refine WL.op rfl (Op1.lenL Try.underlying28 (.tmp rfl)) ?_
      refine WL.op rfl (Op1.move (.int (inR64.2 (by omega)))) ?_
      refine WL.ns ?_
      refine W.block ?_
      obtain ⟨s16, hs17, hk18⟩ := bind_some hm
      clear hm
      refine W.loop (fun m (s : Int × List api_Step × List api_Step × ((List api_Unit))) => m = s.2.2.1.length ∧ v1 = s.2.1 ++ s.2.2.1 ∧ s.1 = (s.2.1.length : Int) ∧ M.address_found_loop1 s.2.2.1 s.2.2.2 = some s16) (fun s => [(35, ((tI .i64).is s.1)), (5, (Bp b 0)), (33, ((tL tapi_Step).is v1)), (34, ((tI .i64).is (v1.length : Int)))]) (fun s => [(5, (Bx 1 false 25 ((tL tapi_Unit).is s.2.2.2) b))]) v1.length ((0 : Int), [], v1, at0_) ⟨rfl, rfl, rfl, hs17⟩ ⟨Ent.q rfl, Ent.q rfl, Ent.q rfl, Ent.q rfl, trivial⟩ ⟨rfl, rfl, trivial⟩ ?_
      rintro m ⟨i, pre, rest5, at0_2⟩ ⟨hn22, hxs19, hi20, hm⟩
      try dsimp only at hn22 hxs19 hi20 hm
      change W _ _ _ _ _ _ _ [(35, ((tI .i64).is i)), (5, (Bp b 0)), (33, ((tL tapi_Step).is v1)), (34, ((tI .i64).is (v1.length : Int)))] [(5, (Bx 1 false 25 ((tL tapi_Unit).is at0_2) b))]
      refine W.lenL (s := 33) (.tmp rfl) fun hlen21 => ?_
      refine W.sr ?_
      refine WL.op rfl (Op1.ltI (.tmp rfl) (.tmp rfl)) ?_
      refine WL.ns ?_
      refine W.seq ?_
      refine W.cond (.tmp rfl) (fun hc24 => ?_) (fun hc24 => ?_)
      · have hp25 := of_decide_eq_true hc24
        obtain ⟨e, es, hrest27⟩ := range_more hxs19 hi20 hp25
        subst hrest27
        rw [M.address_found_loop1.eq_2] at hm
        refine W.skip ?_
        refine WN.seq ?_
        refine W.seq ?_
        refine W.block ?_
        refine W.sr ?_
        refine WL.op rfl (Op1.idxPre hxs19 hi20 Try.underlying28 Try.sizeOf63 (.tmp rfl) (.tmp rfl)) ?_
        refine WL.op rfl (Op1.load ty63 (.tmp rfl)) ?_
        refine WL.opR rfl (OpR.alloc 7 ze63) (fun b1 => ?_)
        refine WL.opU (OpR.storeB (b := b1) 7 Try.sizeOf63 (Cellable.is tapi_Step e) rfl (.tmp rfl) (.tmp rfl)) (fun _ => ?_)
        refine WL.sealed (t := tapi_Step) (u := e) 7 7 rfl rfl ?_
        refine WL.nr ?_
        refine WL.addNil (t := tapi_Unit) (E := 27) 8 ?_
        refine WL.op rfl (Op1.assign (Opd.nilO (t := tapi_Unit))) ?_
        refine WL.ns ?_
        refine W.seq ?_
        refine W.sr ?_
        refine WL.op rfl (Op1.loadB 5 Try.isAgg25 Try.sizeOf25 rfl (.tmp rfl)) ?_
        refine WL.op rfl (Op1.lenL Try.underlying25 (.tmp rfl)) ?_
        refine WL.op rfl (Op1.move (.int (inR64.2 (by omega)))) ?_
        refine WL.ns ?_
        refine W.block ?_
        obtain ⟨s28, hs29, hk30⟩ := bind_some hm
        clear hm
        refine W.loop (fun m (s : Int × List api_Unit × List api_Unit × (((List api_Unit)) × Tok)) => m = s.2.2.1.length ∧ at0_2 = s.2.1 ++ s.2.2.1 ∧ s.1 = (s.2.1.length : Int) ∧ M.address_found_loop2 e s.2.2.1 s.2.2.2.1 = some s28) (fun s => [(41, ((tI .i64).is s.1)), (8, (tO tapi_Unit s.2.2.2.2 s.2.2.2.1)), (5, (Bp b 0)), (7, (tapi_Step.ptr e)), (33, ((tL tapi_Step).is v1)), (34, ((tI .i64).is (v1.length : Int))), (35, ((tI .i64).is i)), (39, ((tL tapi_Unit).is at0_2)), (40, ((tI .i64).is (at0_2.length : Int)))]) (fun s => [(8, Own tapi_Unit 27 s.2.2.2.2 s.2.2.2.1.length), (5, (Bx 1 false 25 ((tL tapi_Unit).is at0_2) b))]) at0_2.length ((0 : Int), [], at0_2, (([] : List api_Unit), (none : Tok))) ⟨rfl, rfl, rfl, hs29⟩ ⟨Ent.q rfl, Ent.q rfl, Ent.q rfl, Ent.q rfl, Ent.q rfl, Ent.q rfl, Ent.q rfl, Ent.q rfl, Ent.q rfl, trivial⟩ ⟨rfl, rfl, ⟨rfl, rfl, trivial⟩⟩ ?_
        rintro m ⟨i1, pre1, rest4, ⟨next, k2⟩⟩ ⟨hn34, hxs31, hi32, hm⟩
        try dsimp only at hn34 hxs31 hi32 hm
        change W _ _ _ _ _ _ _ [(41, ((tI .i64).is i1)), (8, (tO tapi_Unit k2 next)), (5, (Bp b 0)), (7, (tapi_Step.ptr e)), (33, ((tL tapi_Step).is v1)), (34, ((tI .i64).is (v1.length : Int))), (35, ((tI .i64).is i)), (39, ((tL tapi_Unit).is at0_2)), (40, ((tI .i64).is (at0_2.length : Int)))] [(8, Own tapi_Unit 27 k2 next.length), (5, (Bx 1 false 25 ((tL tapi_Unit).is at0_2) b))]
        refine W.lenL (s := 39) (.tmp rfl) fun hlen33 => ?_
        refine W.sr ?_
        refine WL.op rfl (Op1.ltI (.tmp rfl) (.tmp rfl)) ?_
        refine WL.ns ?_
        refine W.seq ?_
        refine W.cond (.tmp rfl) (fun hc36 => ?_) (fun hc36 => ?_)
        · have hp37 := of_decide_eq_true hc36
          obtain ⟨e1, es1, hrest39⟩ := range_more hxs31 hi32 hp37
          subst hrest39
          rw [M.address_found_loop2.eq_2] at hm
          refine W.skip ?_
          refine WN.seq ?_
          refine W.seq ?_
          refine W.block ?_
          refine W.sr ?_
          refine WL.op rfl (Op1.idxPre hxs31 hi32 Try.underlying25 Try.sizeOf27 (.tmp rfl) (.tmp rfl)) ?_
          refine WL.op rfl (Op1.load ty27 (.tmp rfl)) ?_
          refine WL.opR rfl (OpR.alloc 10 ze27) (fun b2 => ?_)
          refine WL.opU (OpR.storeB (b := b2) 10 Try.sizeOf27 (Cellable.is tapi_Unit e1) rfl (.tmp rfl) (.tmp rfl)) (fun _ => ?_)
          refine WL.sealed (t := tapi_Unit) (u := e1) 10 10 rfl rfl ?_
          refine WL.nr ?_
          refine WL.op rfl (Op1.fieldAddr Try.underlying27 rfl (fun w => ⟨0, Try.sizeOf25 w⟩) fapi_Unit_5 (.tmp rfl)) ?_
          refine WL.op rfl (Op1.load ty25 (.tmp rfl)) ?_
          refine WL.op rfl (Op1.lenL Try.underlying25 (.tmp rfl)) ?_
          refine WL.op rfl (Op1.move (.int (inR64.2 (by omega)))) ?_
          refine WL.ns ?_
          refine W.block ?_
          obtain ⟨s40, hs41, hk42⟩ := bind_some hm
          clear hm
          refine W.loop (fun m (s : Int × List api_Unit × List api_Unit × (((List api_Unit)) × Tok)) => m = s.2.2.1.length ∧ e1.Kids = s.2.1 ++ s.2.2.1 ∧ s.1 = (s.2.1.length : Int) ∧ M.address_found_loop3 e s.2.2.1 s.2.2.2.1 = some s40) (fun s => [(48, ((tI .i64).is s.1)), (8, (tO tapi_Unit s.2.2.2.2 s.2.2.2.1)), (5, (Bp b 0)), (7, (tapi_Step.ptr e)), (33, ((tL tapi_Step).is v1)), (34, ((tI .i64).is (v1.length : Int))), (35, ((tI .i64).is i)), (39, ((tL tapi_Unit).is at0_2)), (40, ((tI .i64).is (at0_2.length : Int))), (41, ((tI .i64).is i1)), (46, ((tL tapi_Unit).is e1.Kids)), (47, ((tI .i64).is (e1.Kids.length : Int)))]) (fun s => [(8, Own tapi_Unit 27 s.2.2.2.2 s.2.2.2.1.length), (5, (Bx 1 false 25 ((tL tapi_Unit).is at0_2) b))]) e1.Kids.length ((0 : Int), [], e1.Kids, (next, k2)) ⟨rfl, rfl, rfl, hs41⟩ ⟨Ent.q rfl, Ent.q rfl, Ent.q rfl, Ent.q rfl, Ent.q rfl, Ent.q rfl, Ent.q rfl, Ent.q rfl, Ent.q rfl, Ent.q rfl, Ent.q rfl, Ent.q rfl, trivial⟩ ⟨rfl, rfl, ⟨rfl, rfl, trivial⟩⟩ ?_
          rintro m ⟨i2, pre2, rest3, ⟨next1, k3⟩⟩ ⟨hn46, hxs43, hi44, hm⟩
          try dsimp only at hn46 hxs43 hi44 hm
          change W _ _ _ _ _ _ _ [(48, ((tI .i64).is i2)), (8, (tO tapi_Unit k3 next1)), (5, (Bp b 0)), (7, (tapi_Step.ptr e)), (33, ((tL tapi_Step).is v1)), (34, ((tI .i64).is (v1.length : Int))), (35, ((tI .i64).is i)), (39, ((tL tapi_Unit).is at0_2)), (40, ((tI .i64).is (at0_2.length : Int))), (41, ((tI .i64).is i1)), (46, ((tL tapi_Unit).is e1.Kids)), (47, ((tI .i64).is (e1.Kids.length : Int)))] [(8, Own tapi_Unit 27 k3 next1.length), (5, (Bx 1 false 25 ((tL tapi_Unit).is at0_2) b))]
          refine W.lenL (s := 46) (.tmp rfl) fun hlen45 => ?_
          refine W.sr ?_
          refine WL.op rfl (Op1.ltI (.tmp rfl) (.tmp rfl)) ?_
          refine WL.ns ?_
          refine W.seq ?_
          refine W.cond (.tmp rfl) (fun hc48 => ?_) (fun hc48 => ?_)
          · have hp49 := of_decide_eq_true hc48
            obtain ⟨e2, es2, hrest51⟩ := range_more hxs43 hi44 hp49
            subst hrest51
            rw [M.address_found_loop3.eq_2] at hm
            refine W.skip ?_
            refine WN.seq ?_
            refine W.seq ?_
            refine W.block ?_
            refine W.sr ?_
            refine WL.op rfl (Op1.idxPre hxs43 hi44 Try.underlying25 Try.sizeOf27 (.tmp rfl) (.tmp rfl)) ?_
            refine WL.op rfl (Op1.load ty27 (.tmp rfl)) ?_
            refine WL.opR rfl (OpR.alloc 12 ze27) (fun b3 => ?_)
            refine WL.opU (OpR.storeB (b := b3) 12 Try.sizeOf27 (Cellable.is tapi_Unit e2) rfl (.tmp rfl) (.tmp rfl)) (fun _ => ?_)
            refine WL.sealed (t := tapi_Unit) (u := e2) 12 12 rfl rfl ?_
            refine WL.nr ?_
            refine WL.op rfl (Op1.load ty27 (.tmp rfl)) ?_
            refine WL.op rfl (Op1.load ty63 (.tmp rfl)) ?_
            obtain ⟨called, hv52, hm⟩ := bind_some hm
            refine WL.op rfl (Op1.call Try.call66 (address_called_spec _ _ _ hv52) ⟨(.tmp rfl), (.tmp rfl), trivial⟩) ?_
            refine WL.ns ?_
            refine W.cond (.tmp rfl) (fun hc53 => ?_) (fun hc53 => ?_)
            · have hp54 := hc53
              rw [if_pos hp54] at hm
              refine W.region ?_
              refine WL.mv rfl rfl ?_
              refine WL.op rfl (Op1.load ty27 (.tmp rfl)) ?_
              refine WL.op rfl (Op1.buildSlice (n := 1) (ys := [(0, e2)]) (z := zapi_Unit) (xs := [e2]) Try.underlying25 el27 ze27 ⟨rfl, (.tmp rfl), trivial⟩ (by simp) (by decide) rfl) ?_
              obtain ⟨next2, hv55, hm⟩ := bind_some hm
              refine WL.opR rfl (OpR.appC (key := 8) hv55 Try.underlying25 el27 (.tmp rfl) (.tmp rfl) rfl) (fun k4 => ?_)
              refine WL.gv rfl rfl ?_
              refine WL.nil ?_
              refine WN.block ?_
              refine WN.seq ?_
              refine W.region ?_
              refine WL.op rfl (Op1.addI (.tmp rfl) (.int (inR64.2 (by omega))) (range_inR hi44 hp49 hlen45)) ?_
              refine WL.mv rfl rfl ?_
              refine WL.nil ?_
              exact WN.again es2.length (i2 + 1, pre2 ++ [e2], es2, (next2, k4)) (range_lt hn46) ⟨rfl, range_step hxs43, range_idx hi44, hm⟩ ⟨Ent.q rfl, Ent.q rfl, Ent.q rfl, Ent.q rfl, Ent.q rfl, Ent.q rfl, Ent.q rfl, Ent.q rfl, Ent.q rfl, Ent.q rfl, Ent.q rfl, Ent.q rfl, trivial⟩ ⟨rfl, rfl, ⟨rfl, rfl, trivial⟩⟩
            · have hp54 := ne_of_false hc53
              rw [if_neg hp54] at hm
              refine W.skip ?_
              refine WN.block ?_
              refine WN.seq ?_
              refine W.region ?_
              refine WL.op rfl (Op1.addI (.tmp rfl) (.int (inR64.2 (by omega))) (range_inR hi44 hp49 hlen45)) ?_
              refine WL.mv rfl rfl ?_
              refine WL.nil ?_
              exact WN.again es2.length (i2 + 1, pre2 ++ [e2], es2, (next1, k3)) (range_lt hn46) ⟨rfl, range_step hxs43, range_idx hi44, hm⟩ ⟨Ent.q rfl, Ent.q rfl, Ent.q rfl, Ent.q rfl, Ent.q rfl, Ent.q rfl, Ent.q rfl, Ent.q rfl, Ent.q rfl, Ent.q rfl, Ent.q rfl, Ent.q rfl, trivial⟩ ⟨rfl, rfl, ⟨rfl, rfl, trivial⟩⟩
          · have hrest51 := range_end hxs43 hi44 (of_decide_eq_false hc48)
            subst hrest51
            rw [M.address_found_loop3.eq_1] at hm
            refine W.exit rfl ?_
            have hr56 := Option.some.inj hm
            clear hm
            subst hr56
            have hm := hk42
            try dsimp only at hm
            refine WN.block ?_
            refine WN.seq ?_
            refine W.region ?_
            refine WL.op rfl (Op1.addI (.tmp rfl) (.int (inR64.2 (by omega))) (range_inR hi32 hp37 hlen33)) ?_
            refine WL.mv rfl rfl ?_
            refine WL.nil ?_
            exact WN.again es1.length (i1 + 1, pre1 ++ [e1], es1, (next1, k3)) (range_lt hn34) ⟨rfl, range_step hxs31, range_idx hi32, hm⟩ ⟨Ent.q rfl, Ent.q rfl, Ent.q rfl, Ent.q rfl, Ent.q rfl, Ent.q rfl, Ent.q rfl, Ent.q rfl, Ent.q rfl, trivial⟩ ⟨rfl, rfl, ⟨rfl, rfl, trivial⟩⟩
        · have hrest39 := range_end hxs31 hi32 (of_decide_eq_false hc36)
          subst hrest39
          rw [M.address_found_loop2.eq_1] at hm
          refine W.exit rfl ?_
          have hr57 := Option.some.inj hm
          clear hm
          subst hr57
          have hm := hk30
          try dsimp only at hm
          refine WN.seq ?_
          refine W.region ?_
          refine WL.mv rfl rfl ?_
          refine WL.opU (OpR.storeB (b := b) 5 Try.sizeOf25 (Cellable.o tapi_Unit k2 next) rfl (.tmp rfl) (.tmp rfl)) (fun _ => ?_)
          refine WL.nil ?_
          refine WN.block ?_
          refine WN.seq ?_
          refine W.region ?_
          refine WL.op rfl (Op1.addI (.tmp rfl) (.int (inR64.2 (by omega))) (range_inR hi20 hp25 hlen21)) ?_
          refine WL.mv rfl rfl ?_
          refine WL.nil ?_
          refine WN.boxV (A' := ((tL tapi_Unit).is next)) 5 rfl (fun _ _ => tO_tL) ?_
          exact WN.again es.length (i + 1, pre ++ [e], es, next) (range_lt hn22) ⟨rfl, range_step hxs19, range_idx hi20, hm⟩ ⟨Ent.q rfl, Ent.q rfl, Ent.q rfl, Ent.q rfl, trivial⟩ ⟨rfl, rfl, trivial⟩
      · have hrest27 := range_end hxs19 hi20 (of_decide_eq_false hc24)
        subst hrest27
        rw [M.address_found_loop1.eq_1] at hm
        refine W.exit rfl ?_
        have hr58 := Option.some.inj hm
        clear hm
        subst hr58
        have hm := hk18
        try dsimp only at hm
        refine WN.seq ?_
        refine W.sr ?_
        refine WL.op rfl (Op1.loadB 5 Try.isAgg25 Try.sizeOf25 rfl (.tmp rfl)) ?_
        refine WL.gv rfl rfl ?_
        refine WL.ns ?_
        cases hm
        exact W.ret1 () rfl (.tmp rfl) trivial
    · have hm := hs5
      clear hs5
      refine W.block ?_
      refine W.sr ?_
      refine WL.op rfl (Op1.load ty28 (.tmp rfl)) ?_
      refine WL.op rfl (Op1.lenL Try.underlying28 (.tmp rfl)) ?_
      refine WL.op rfl (Op1.eqI (.tmp rfl) (.int (inR64.2 (by omega)))) ?_
      refine WL.gv rfl rfl ?_
      refine WL.ns ?_
      refine W.cond (.tmp rfl) (fun hc7 => ?_) (fun hc7 => ?_)
      · have hp8 := of_decide_eq_true hc7
        rw [if_pos hp8] at hm
        refine W.sr ?_
        refine WL.op rfl (Op1.load ty27 (.tmp rfl)) ?_
        refine WL.op rfl (Op1.buildSlice (n := 1) (ys := [(0, u)]) (z := zapi_Unit) (xs := [u]) Try.underlying25 el27 ze27 ⟨rfl, (.tmp rfl), trivial⟩ (by simp) (by decide) rfl) ?_
        refine WL.gv rfl rfl ?_
        refine WL.ns ?_
        have hr9 := Option.some.inj hm
        clear hm
        subst hr9
        have hm := hk6
        try dsimp only at hm
        cases hm
        exact W.ret1 () rfl (.tmp rfl) trivial
      · have hp8 := of_decide_eq_false hc7
        rw [if_neg hp8] at hm
        refine W.sr ?_
        refine WL.op rfl (Op1.load ty28 (.tmp rfl)) ?_
        obtain ⟨v, hv10, hm⟩ := bind_some hm
        refine WL.op rfl (Op1.idx hv10 Try.underlying28 Try.sizeOf63 (.tmp rfl) (.int (inR64.2 (by omega)))) ?_
        refine WL.op rfl (Op1.load ty63 (.tmp rfl)) ?_
        obtain ⟨book, hv11, hm⟩ := bind_some hm
        refine WL.op rfl (Op1.call Try.call62 (address_book_spec _ _ hv11) ⟨(.tmp rfl), trivial⟩) ?_
        refine WL.gv rfl rfl ?_
        refine WL.ns ?_
        refine W.cond (.tmp rfl) (fun hc12 => ?_) (fun hc12 => ?_)
        · have hp13 := hc12
          rw [if_pos hp13] at hm
          refine W.region ?_
          refine WL.op rfl (Op1.load ty27 (.tmp rfl)) ?_
          refine WL.opR rfl (OpR.buildSlice (n := 1) (ys := [(0, u)]) (z := zapi_Unit) (xs := [u]) 31 Try.underlying25 el27 ze27 ⟨rfl, (.tmp rfl), trivial⟩ (by simp) (by decide) rfl) (fun k => ?_)
          refine WL.opU (OpR.storeB (b := b) 5 Try.sizeOf25 (Cellable.o tapi_Unit k [u]) rfl (.tmp rfl) (.tmp rfl)) (fun _ => ?_)
          refine WL.nil ?_
          refine WN.block ?_
          refine WN.boxV (A' := ((tL tapi_Unit).is [u])) 5 rfl (fun _ _ => tO_tL) ?_
          exact WN.meet [u] (Option.some.inj hm) ⟨Ent.q rfl, Ent.q rfl, trivial⟩ ⟨rfl, rfl, trivial⟩
        · have hp13 := ne_of_false hc12
          rw [if_neg hp13] at hm
          refine W.region ?_
          refine WL.op rfl (Op1.load ty27 (.tmp rfl)) ?_
          refine WL.op rfl (Op1.makeClo (Cs := [((tL tapi_Step).ptr p), (Bp b 0)]) (cap := [.tmp 3, .tmp 5]) ⟨(.tmp rfl), (.tmp rfl), trivial⟩) ?_
          obtain ⟨at0_1, hv14, hm⟩ := bind_some hm
          refine WL.weakR (res' := [(5, (Bx 1 false 25 (tO tapi_Unit (none : Tok) ([] : List api_Unit)) b)), (1000005, Own tapi_Unit 27 (none : Tok) ([] : List api_Unit).length)]) ⟨rfl, rfl, ⟨rfl, rfl, trivial⟩⟩ ?_
          refine WL.opR rfl (OpR.call (us := [5, 1000005]) (A := fun kx : Tok => (Asn.eq (.tuple #[]))) Try.call64 (FSpecR.keys (rin' := [(5, (Bx 1 false 25 (tO tapi_Unit (none : Tok) ([] : List api_Unit)) b)), (1000005, Own tapi_Unit 27 (none : Tok) ([] : List api_Unit).length)]) (out' := fun kx : Tok => [(5, (Bx 1 false 25 (tO tapi_Unit kx at0_1) b)), (1000005, Own tapi_Unit 27 kx at0_1.length)]) (address_each_i0_spec _ _ _ _ _ _ _ hv14) rfl (fun _ => rfl)) rfl ⟨(.tmp rfl), (.tmp rfl), trivial⟩) (fun k1 => ?_)
          refine WL.nil ?_
          refine WN.block ?_
          refine WN.boxV (A' := ((tL tapi_Unit).is at0_1)) 5 rfl (fun _ _ => tO_tL) ?_
          exact WN.meet at0_1 (Option.some.inj hm) ⟨Ent.q rfl, Ent.q rfl, trivial⟩ ⟨rfl, rfl, trivial⟩

theorem address_FindAll_spec (n : Nat) (u : api_Unit) (p : List api_Step) (r : (List api_Id)) (hm : M.address_FindAll n u p = some r) : FSpec Try.prog 25 [(tapi_Unit.is u), ((tL tapi_Step).is p)] ((tL tapi_Id).is r) := by
  unfold M.address_FindAll at hm
  refine FSpec.of Try.func25 rfl rfl rfl (fun g0 => ?_)
  refine W.sr ?_
  refine WL.op rfl (Op1.box (.tmp rfl)) ?_
  refine WL.op rfl (Op1.assign (.nil (t := tapi_Id))) ?_
  refine WL.nr ?_
  refine WL.addNil (t := tapi_Id) (E := 23) 5 ?_
  refine WL.op rfl (Op1.assign (Opd.nilO (t := tapi_Id))) ?_
  refine WL.ns ?_
  refine W.seq ?_
  refine W.sr ?_
  refine WL.op rfl (Op1.load ty27 (.tmp rfl)) ?_
  refine WL.mv rfl rfl ?_
  obtain ⟨found, hv1, hm⟩ := bind_some hm
  refine WL.op rfl (Op1.call Try.call40 (address_found_spec _ _ _ _ hv1) ⟨(.tmp rfl), (.tmp rfl), trivial⟩) ?_
  refine WL.op rfl (Op1.lenL Try.underlying25 (.tmp rfl)) ?_
  refine WL.op rfl (Op1.move (.int (inR64.2 (by omega)))) ?_
  refine WL.ns ?_
  refine W.block ?_
  obtain ⟨s2, hs3, hk4⟩ := bind_some hm
  clear hm
  refine W.loop (fun m (s : Int × List api_Unit × List api_Unit × (((List api_Id)) × Tok)) => m = s.2.2.1.length ∧ found = s.2.1 ++ s.2.2.1 ∧ s.1 = (s.2.1.length : Int) ∧ M.address_FindAll_loop1 s.2.2.1 s.2.2.2.1 = some s2) (fun s => [(12, ((tI .i64).is s.1)), (5, (tO tapi_Id s.2.2.2.2 s.2.2.2.1)), (10, ((tL tapi_Unit).is found)), (11, ((tI .i64).is (found.length : Int)))]) (fun s => [(5, Own tapi_Id 23 s.2.2.2.2 s.2.2.2.1.length)]) found.length ((0 : Int), [], found, (([] : List api_Id), (none : Tok))) ⟨rfl, rfl, rfl, hs3⟩ ⟨Ent.q rfl, Ent.q rfl, Ent.q rfl, Ent.q rfl, trivial⟩ ⟨rfl, rfl, trivial⟩ ?_
  rintro m ⟨i, pre, rest1, ⟨out, k⟩⟩ ⟨hn8, hxs5, hi6, hm⟩
  try dsimp only at hn8 hxs5 hi6 hm
  change W _ _ _ _ _ _ _ [(12, ((tI .i64).is i)), (5, (tO tapi_Id k out)), (10, ((tL tapi_Unit).is found)), (11, ((tI .i64).is (found.length : Int)))] [(5, Own tapi_Id 23 k out.length)]
  refine W.lenL (s := 10) (.tmp rfl) fun hlen7 => ?_
  refine W.sr ?_
  refine WL.op rfl (Op1.ltI (.tmp rfl) (.tmp rfl)) ?_
  refine WL.ns ?_
  refine W.seq ?_
  refine W.cond (.tmp rfl) (fun hc10 => ?_) (fun hc10 => ?_)
  · have hp11 := of_decide_eq_true hc10
    obtain ⟨e, es, hrest13⟩ := range_more hxs5 hi6 hp11
    subst hrest13
    rw [M.address_FindAll_loop1.eq_2] at hm
    refine W.skip ?_
    refine WN.seq ?_
    refine W.seq ?_
    refine W.block ?_
    refine W.sr ?_
    refine WL.op rfl (Op1.idxPre hxs5 hi6 Try.underlying25 Try.sizeOf27 (.tmp rfl) (.tmp rfl)) ?_
    refine WL.op rfl (Op1.load ty27 (.tmp rfl)) ?_
    refine WL.opR rfl (OpR.alloc 7 ze27) (fun b => ?_)
    refine WL.opU (OpR.storeB (b := b) 7 Try.sizeOf27 (Cellable.is tapi_Unit e) rfl (.tmp rfl) (.tmp rfl)) (fun _ => ?_)
    refine WL.sealed (t := tapi_Unit) (u := e) 7 7 rfl rfl ?_
    refine WL.nr1 ?_
    refine WL.mv rfl rfl ?_
    refine WL.op rfl (Op1.fieldAddr Try.underlying27 rfl (fun w => ⟨2, Try.sizeOf23 w⟩) fapi_Unit_0 (.tmp rfl)) ?_
    refine WL.op rfl (Op1.load ty23 (.tmp rfl)) ?_
    refine WL.op rfl (Op1.buildSlice (n := 1) (ys := [(0, e.Id)]) (z := zapi_Id) (xs := [e.Id]) Try.underlying42 el23 ze23 ⟨rfl, (.tmp rfl), trivial⟩ (by simp) (by decide) rfl) ?_
    obtain ⟨out1, hv14, hm⟩ := bind_some hm
    refine WL.opR rfl (OpR.appC (key := 5) hv14 Try.underlying42 el23 (.tmp rfl) (.tmp rfl) rfl) (fun k1 => ?_)
    refine WL.gv rfl rfl ?_
    refine WL.nil ?_
    refine WN.block ?_
    refine WN.seq ?_
    refine W.region ?_
    refine WL.op rfl (Op1.addI (.tmp rfl) (.int (inR64.2 (by omega))) (range_inR hi6 hp11 hlen7)) ?_
    refine WL.mv rfl rfl ?_
    refine WL.nil ?_
    exact WN.again es.length (i + 1, pre ++ [e], es, (out1, k1)) (range_lt hn8) ⟨rfl, range_step hxs5, range_idx hi6, hm⟩ ⟨Ent.q rfl, Ent.q rfl, Ent.q rfl, Ent.q rfl, trivial⟩ ⟨rfl, rfl, trivial⟩
  · have hrest13 := range_end hxs5 hi6 (of_decide_eq_false hc10)
    subst hrest13
    rw [M.address_FindAll_loop1.eq_1] at hm
    refine W.exit rfl ?_
    have hr15 := Option.some.inj hm
    clear hm
    subst hr15
    have hm := hk4
    try dsimp only at hm
    refine WN.seq ?_
    refine W.sr ?_
    refine WL.mv rfl rfl ?_
    refine WL.gv rfl rfl ?_
    refine WL.ns ?_
    cases hm
    exact W.ret1 () rfl (Opd.own (.tmp rfl)) trivial

theorem address_FindOne_spec (n : Nat) (u : api_Unit) (p : List api_Step) (r : api_Id × Int) (hm : M.address_FindOne n u p = some r) : FSpec Try.prog 26 [(tapi_Unit.is u), ((tL tapi_Step).is p)] (Asn.tuple2 (tapi_Id.is r.1) ((tI .i64).is r.2)) := by
  unfold M.address_FindOne at hm
  refine FSpec.of Try.func26 rfl rfl rfl (fun g0 => ?_)
  refine W.sr ?_
  refine WL.op rfl (Op1.box (.tmp rfl)) ?_
  refine WL.opR rfl (OpR.alloc 4 ze23) (fun b => ?_)
  refine WL.op rfl (Op1.assign (.int (inR64.2 (by omega)))) ?_
  refine WL.nr ?_
  refine WL.op rfl (Op1.load ty27 (.tmp rfl)) ?_
  refine WL.mv rfl rfl ?_
  obtain ⟨findal, hv1, hm⟩ := bind_some hm
  refine WL.op rfl (Op1.call Try.call25 (address_FindAll_spec _ _ _ _ hv1) ⟨(.tmp rfl), (.tmp rfl), trivial⟩) ?_
  refine WL.gv rfl rfl ?_
  refine WL.ns ?_
  refine W.seq ?_
  refine W.sr ?_
  refine WL.mv rfl rfl ?_
  refine WL.op rfl (Op1.lenL Try.underlying42 (.tmp rfl)) ?_
  refine WL.ns ?_
  refine W.block ?_
  refine W.sr ?_
  refine WL.op rfl (Op1.eqI (.tmp rfl) (.int (inR64.2 (by omega)))) ?_
  refine WL.gv rfl rfl ?_
  refine WL.ns ?_
  refine W.cond (.tmp rfl) (fun hc2 => ?_) (fun hc2 => ?_)
  · have hp3 := of_decide_eq_true hc2
    rw [if_pos hp3] at hm
    refine W.sr ?_
    refine WL.op rfl (Op1.build (s := tapi_Id) (x := (⟨(0 : Int), (0 : Int), (0 : Int)⟩ : api_Id)) zapi_Id_f rfl Try.underlying23 (zapi_Id_sz _ Try.underlying23) ze23 rfl) ?_
    refine WL.opU (OpR.storeB (b := b) 4 Try.sizeOf23 (Cellable.is tapi_Id (⟨(0 : Int), (0 : Int), (0 : Int)⟩ : api_Id)) rfl (.tmp rfl) (.tmp rfl)) (fun _ => ?_)
    refine WL.op rfl (Op1.assign (.int (inR64.2 (by omega)))) ?_
    refine WL.ns ?_
    cases hm
    exact W.retQ2 () rfl rfl (ResAt.cell 4 Try.isAgg23 Try.sizeOf23 rfl (.tmp rfl)) (ResAt.tmp (.tmp rfl)) trivial
  · have hp3 := of_decide_eq_false hc2
    rw [if_neg hp3] at hm
    refine W.sr ?_
    refine WL.op rfl (Op1.eqI (.tmp rfl) (.int (inR64.2 (by omega)))) ?_
    refine WL.gv rfl rfl ?_
    refine WL.ns ?_
    refine W.cond (.tmp rfl) (fun hc4 => ?_) (fun hc4 => ?_)
    · have hp5 := of_decide_eq_true hc4
      rw [if_pos hp5] at hm
      refine W.sr ?_
      refine WL.mv rfl rfl ?_
      obtain ⟨v, hv6, hm⟩ := bind_some hm
      refine WL.op rfl (Op1.idx hv6 Try.underlying42 Try.sizeOf23 (.tmp rfl) (.int (inR64.2 (by omega)))) ?_
      refine WL.op rfl (Op1.load ty23 (.tmp rfl)) ?_
      refine WL.opU (OpR.storeB (b := b) 4 Try.sizeOf23 (Cellable.is tapi_Id v) rfl (.tmp rfl) (.tmp rfl)) (fun _ => ?_)
      refine WL.op rfl (Op1.assign (.int (inR64.2 (by omega)))) ?_
      refine WL.ns ?_
      cases hm
      exact W.retQ2 () rfl rfl (ResAt.cell 4 Try.isAgg23 Try.sizeOf23 rfl (.tmp rfl)) (ResAt.tmp (.tmp rfl)) trivial
    · have hp5 := of_decide_eq_false hc4
      rw [if_neg hp5] at hm
      refine W.skip ?_
      refine WN.block ?_
      refine WN.seq ?_
      refine W.sr ?_
      refine WL.op rfl (Op1.build (s := tapi_Id) (x := (⟨(0 : Int), (0 : Int), (0 : Int)⟩ : api_Id)) zapi_Id_f rfl Try.underlying23 (zapi_Id_sz _ Try.underlying23) ze23 rfl) ?_
      refine WL.opU (OpR.storeB (b := b) 4 Try.sizeOf23 (Cellable.is tapi_Id (⟨(0 : Int), (0 : Int), (0 : Int)⟩ : api_Id)) rfl (.tmp rfl) (.tmp rfl)) (fun _ => ?_)
      refine WL.op rfl (Op1.assign (.int (inR64.2 (by omega)))) ?_
      refine WL.ns ?_
      cases hm
      exact W.retQ2 () rfl rfl (ResAt.cell 4 Try.isAgg23 Try.sizeOf23 rfl (.tmp rfl)) (ResAt.tmp (.tmp rfl)) trivial

theorem unit_way_spec : ∀ (n : Nat) (u : api_Unit) (id : api_Id) (r : (List api_Unit)), M.unit_way n u id = some r → FSpec Try.prog 81 [(tapi_Unit.is u), (tapi_Id.is id)] ((tLn tapi_Unit).is r) := by
  intro n
  induction n with
  | zero => intro u id r hm; cases hm
  | succ n ih =>
    intro u id r hm
    rw [M.unit_way.eq_2] at hm
    refine FSpec.of Try.func81 rfl rfl rfl (fun g0 => ?_)
    refine W.sr ?_
    refine WL.op rfl (Op1.box (.tmp rfl)) ?_
    refine WL.op rfl (Op1.box (.tmp rfl)) ?_
    refine WL.op rfl (Op1.assign (.nilN (t := tapi_Unit))) ?_
    refine WL.ns ?_
    refine W.seq ?_
    refine W.sr ?_
    refine WL.op rfl (Op1.fieldAddr Try.underlying27 rfl (fun w => ⟨2, Try.sizeOf23 w⟩) fapi_Unit_0 (.tmp rfl)) ?_
    refine WL.op rfl (Op1.load ty23 (.tmp rfl)) ?_
    refine WL.op rfl (Op1.load ty23 (.tmp rfl)) ?_
    refine WL.op rfl (Op1.eqSt (D := 2) rfl (by decide) eg23 eq23 (.tmp rfl) (.tmp rfl)) ?_
    refine WL.ns ?_
    refine W.cond (.tmp rfl) (fun hc1 => ?_) (fun hc1 => ?_)
    · have hp2 := of_decide_eq_true hc1
      rw [if_pos hp2] at hm
      refine W.sr ?_
      refine WL.op rfl (Op1.load ty27 (.tmp rfl)) ?_
      refine WL.op rfl (Op1.buildSlice (n := 1) (ys := [(0, u)]) (z := zapi_Unit) (xs := [u]) Try.underlying25 el27 ze27 ⟨rfl, (.tmp rfl), trivial⟩ (by simp) (by decide) rfl) ?_
      refine WL.gv rfl rfl ?_
      refine WL.ns ?_
      obtain ⟨_, hz3, hm⟩ := bind_some hm
      cases hm
      exact W.ret1 () rfl (Opd.asLn (neC_ne hz3) (.tmp rfl)) trivial
    · have hp2 := of_decide_eq_false hc1
      rw [if_neg hp2] at hm
      refine W.skip ?_
      refine WN.seq ?_
      refine W.seq ?_
      refine W.sr ?_
      refine WL.op rfl (Op1.fieldAddr Try.underlying27 rfl (fun w => ⟨0, Try.sizeOf25 w⟩) fapi_Unit_5 (.tmp rfl)) ?_
      refine WL.op rfl (Op1.load ty25 (.tmp rfl)) ?_
      refine WL.op rfl (Op1.lenL Try.underlying25 (.tmp rfl)) ?_
      refine WL.op rfl (Op1.move (.int (inR64.2 (by omega)))) ?_
      refine WL.ns ?_
      refine W.block ?_
      obtain ⟨s5, hs6, hk7⟩ := bind_some hm
      clear hm
      refine W.loop (fun m (s : Int × List api_Unit × List api_Unit × Unit) => m = s.2.2.1.length ∧ u.Kids = s.2.1 ++ s.2.2.1 ∧ s.1 = (s.2.1.length : Int) ∧ M.unit_way_loop1 u id (M.unit_way n) s.2.2.1 = some s5) (fun s => [(17, ((tI .i64).is s.1)), (2, (tapi_Unit.ptr u)), (3, (tapi_Id.ptr id)), (15, ((tL tapi_Unit).is u.Kids)), (16, ((tI .i64).is (u.Kids.length : Int)))]) (fun s => []) u.Kids.length ((0 : Int), [], u.Kids, ()) ⟨rfl, rfl, rfl, hs6⟩ ⟨Ent.q rfl, Ent.q rfl, Ent.q rfl, Ent.q rfl, Ent.q rfl, trivial⟩ trivial ?_
      rintro m ⟨i, pre, rest1, _⟩ ⟨hn11, hxs8, hi9, hm⟩
      try dsimp only at hn11 hxs8 hi9 hm
      change W _ _ _ _ _ _ _ [(17, ((tI .i64).is i)), (2, (tapi_Unit.ptr u)), (3, (tapi_Id.ptr id)), (15, ((tL tapi_Unit).is u.Kids)), (16, ((tI .i64).is (u.Kids.length : Int)))] []
      refine W.lenL (s := 15) (.tmp rfl) fun hlen10 => ?_
      refine W.sr ?_
      refine WL.op rfl (Op1.ltI (.tmp rfl) (.tmp rfl)) ?_
      refine WL.ns ?_
      refine W.seq ?_
      refine W.cond (.tmp rfl) (fun hc13 => ?_) (fun hc13 => ?_)
      · have hp14 := of_decide_eq_true hc13
        obtain ⟨e, es, hrest16⟩ := range_more hxs8 hi9 hp14
        subst hrest16
        rw [M.unit_way_loop1.eq_2] at hm
        refine W.skip ?_
        refine WN.seq ?_
        refine W.seq ?_
        refine W.block ?_
        refine W.sr ?_
        refine WL.op rfl (Op1.idxPre hxs8 hi9 Try.underlying25 Try.sizeOf27 (.tmp rfl) (.tmp rfl)) ?_
        refine WL.op rfl (Op1.load ty27 (.tmp rfl)) ?_
        refine WL.opR rfl (OpR.alloc 6 ze27) (fun b => ?_)
        refine WL.opU (OpR.storeB (b := b) 6 Try.sizeOf27 (Cellable.is tapi_Unit e) rfl (.tmp rfl) (.tmp rfl)) (fun _ => ?_)
        refine WL.sealed (t := tapi_Unit) (u := e) 6 6 rfl rfl ?_
        refine WL.nr ?_
        refine WL.op rfl (Op1.load ty27 (.tmp rfl)) ?_
        refine WL.op rfl (Op1.load ty23 (.tmp rfl)) ?_
        obtain ⟨way, hv17, hm⟩ := bind_some hm
        refine WL.op rfl (Op1.call Try.call81 (ih _ _ _ hv17) ⟨(.tmp rfl), (.tmp rfl), trivial⟩) ?_
        refine WL.gv rfl rfl ?_
        refine WL.nr ?_
        refine WL.mv rfl rfl ?_
        refine WL.op rfl (Op1.neNil Try.underlying25 (.tmp rfl)) ?_
        refine WL.ns ?_
        refine W.cond (.tmp rfl) (fun hc18 => ?_) (fun hc18 => ?_)
        · have hp19 := not_pos hc18
          rw [if_pos hp19] at hm
          refine W.sr ?_
          refine WL.op rfl (Op1.load ty27 (.tmp rfl)) ?_
          refine WL.opR rfl (OpR.buildSlice (n := 1) (ys := [(0, u)]) (z := zapi_Unit) (xs := [u]) 27 Try.underlying25 el27 ze27 ⟨rfl, (.tmp rfl), trivial⟩ (by simp) (by decide) rfl) (fun k => ?_)
          refine WL.mv rfl rfl ?_
          obtain ⟨out, hv20, hm⟩ := bind_some hm
          refine WL.opR rfl (OpR.appC (key := 27) hv20 Try.underlying25 el27 (.tmp rfl) (Opd.tLn (.tmp rfl)) rfl) (fun k1 => ?_)
          refine WL.gv rfl rfl ?_
          refine WL.ns ?_
          obtain ⟨_, hz21, hm⟩ := bind_some hm
          have hr23 := Option.some.inj hm
          clear hm
          subst hr23
          have hm := hk7
          try dsimp only at hm
          cases hm
          exact W.ret1 () rfl (Opd.asLn (neC_ne hz21) (Opd.own (.tmp rfl))) trivial
        · have hp19 := not_neg hc18
          rw [if_neg hp19] at hm
          refine W.skip ?_
          refine WN.block ?_
          refine WN.seq ?_
          refine W.region ?_
          refine WL.op rfl (Op1.addI (.tmp rfl) (.int (inR64.2 (by omega))) (range_inR hi9 hp14 hlen10)) ?_
          refine WL.mv rfl rfl ?_
          refine WL.nil ?_
          exact WN.again es.length (i + 1, pre ++ [e], es, ()) (range_lt hn11) ⟨rfl, range_step hxs8, range_idx hi9, hm⟩ ⟨Ent.q rfl, Ent.q rfl, Ent.q rfl, Ent.q rfl, Ent.q rfl, trivial⟩ trivial
      · have hrest16 := range_end hxs8 hi9 (of_decide_eq_false hc13)
        subst hrest16
        rw [M.unit_way_loop1.eq_1] at hm
        refine W.exit rfl ?_
        have hr24 := Option.some.inj hm
        clear hm
        subst hr24
        have hm := hk7
        try dsimp only at hm
        refine WN.seq ?_
        refine W.sr ?_
        refine WL.op rfl (Op1.assign (.nilN (t := tapi_Unit))) ?_
        refine WL.ns ?_
        cases hm
        exact W.ret1 () rfl (.tmp rfl) trivial

theorem slices_Clone_api_Word_api_Word_spec (l : List api_Word) (r : List api_Word) (hm : M.slices_Clone_api_Word_api_Word l = some r) : FSpecR Try.prog 95 [(tL tapi_Word).is l] [] (fun k : Tok => tO tapi_Word k r) (fun k => [(5, Own tapi_Word 111 k r.length)]) := by
  unfold M.slices_Clone_api_Word_api_Word at hm
  refine FSpecR.of Try.func95 rfl rfl rfl (fun g0 => ?_)
  refine W.seq ?_
  refine W.region ?_
  refine WL.op rfl (Op1.assign (.nil (t := tapi_Word))) ?_
  refine WL.nil ?_
  refine WN.seq ?_
  refine W.seq ?_
  refine W.seq ?_
  refine W.region ?_
  refine WL.op rfl (Op1.move (.tmp rfl)) ?_
  refine WL.opR rfl (OpR.eqNil Try.underlying24 (.tmp rfl)) (fun b => ?_)
  refine WL.nil ?_
  refine WN.seq ?_
  refine W.cond (.tmp rfl) (fun hc => ?_) (fun hc => ?_)
  · have hl := b.2 hc
    subst hl
    have hr : [] = r := by simpa [appC] using hm
    subst hr
    refine W.seq ?_
    refine W.region ?_
    refine WL.addNil (t := tapi_Word) (E := 111) 5 ?_
    refine WL.op rfl (Op1.assign (Opd.nilO (t := tapi_Word))) ?_
    refine WL.nil ?_
    refine WN.seq ?_
    exact W.ret1 (none : Tok) rfl (.tmp rfl) ⟨rfl, rfl, trivial⟩
  · refine W.skip ?_
    refine WN.seq ?_
    refine W.seq ?_
    refine W.region ?_
    refine WL.opR rfl (OpR.buildSlice (n := 0) (ys := []) (z := zapi_Word) (xs := []) 5 Try.underlying24 el111 ze111 trivial (by simp) (by decide) rfl) (fun k5 => ?_)
    refine WL.op rfl (Op1.move (.tmp rfl)) ?_
    refine WL.opR rfl (OpR.appC (key := 5) hm Try.underlying24 el111 (.tmp rfl) (.tmp rfl) rfl) (fun k7 => ?_)
    refine WL.op rfl (Op1.assign (.tmp rfl)) ?_
    refine WL.nil ?_
    refine WN.seq ?_
    exact W.ret1 k7 rfl (.tmp rfl) ⟨rfl, rfl, trivial⟩

theorem unit_copied_spec : ∀ (n : Nat) (u : api_Unit) (r : api_Unit), M.unit_copied n u = some r → FSpec Try.prog 87 [(tapi_Unit.is u)] (tapi_Unit.is r) := by
  intro n
  induction n with
  | zero => intro u r hm; cases hm
  | succ n ih =>
    intro u r hm
    rw [M.unit_copied.eq_2] at hm
    refine FSpec.of Try.func87 rfl rfl rfl (fun g0 => ?_)
    refine W.sr ?_
    refine WL.opR rfl (OpR.boxB 1 (Cellable.is tapi_Unit u) (.tmp rfl)) (fun b => ?_)
    refine WL.opR rfl (OpR.alloc 2 ze27) (fun b1 => ?_)
    refine WL.ns ?_
    refine W.seq ?_
    obtain ⟨word, hv1, hm⟩ := bind_some hm
    obtain ⟨word1, hv2, hm⟩ := bind_some hm
    refine W.weakR (res' := [(1, (Bx 8 true 27 (tapi_Unit.is u) b)), (2, (Bx 8 true 27 (tapi_Unit.is zapi_Unit) b1))]) ⟨rfl, rfl, ⟨rfl, rfl, trivial⟩⟩ ?_
    refine W.drawM [.c (Bp b 5), .c ((tL tapi_Word).is u.Head), .c ((tL tapi_Word).is word), .c (Bp b 6), .c ((tL tapi_Word).is u.Words), .c ((tL tapi_Word).is word1), .c (Bp b 5), .c Asn.any, .c (Bp b 6), .c Asn.any] [([], [1]), ([0], []), ([1], []), ([], [1]), ([3], []), ([4], []), ([], [1]), ([2, 6], []), ([], [1]), ([5, 8], [])] [7, 9] [[], [], [], [], [], [], [], [], [], []] (fun m cv => match m with | 0 => [(1, (Bx 8 true 27 (tapi_Unit.is u) b)), (2, (Bx 8 true 27 (tapi_Unit.is zapi_Unit) b1))] | 1 => [(1, (Bx 8 true 27 (tapi_Unit.is ({ u with Head := word } : api_Unit)) b)), (2, (Bx 8 true 27 (tapi_Unit.is zapi_Unit) b1))] | _ => [(1, (Bx 8 true 27 (tapi_Unit.is ({ ({ u with Head := word } : api_Unit) with Words := word1 } : api_Unit)) b)), (2, (Bx 8 true 27 (tapi_Unit.is zapi_Unit) b1))]) (fun _ => none) Try.mixed rfl rfl rfl rfl rfl ⟨fun _ _ _ _ => rfl, ⟨fun _ _ _ _ => rfl, ⟨fun _ _ _ _ => rfl, ⟨fun _ _ _ _ => rfl, ⟨fun _ _ _ _ => rfl, ⟨fun _ _ _ _ => rfl, ⟨fun _ _ _ _ => rfl, ⟨fun _ _ _ _ => rfl, ⟨fun _ _ _ _ => rfl, ⟨fun _ _ _ _ => rfl, trivial⟩⟩⟩⟩⟩⟩⟩⟩⟩⟩ rfl ⟨.inr ⟨fun cv => [], (fun _ _ _ _ => trivial), fun cv => Op1.fieldAddrB (o := 0) Try.underlying27 rfl (fun w => ⟨0, Try.sizeOf24 w⟩) (.tmp rfl) rfl⟩, ⟨.inr ⟨fun cv => [(1, (Bx 8 true 27 (tapi_Unit.is u) b))], (AllUpTo.at ⟨⟨(fun _ _ => ⟨rfl, rfl, trivial⟩), (fun hw => absurd hw (by decide))⟩, (fun hw => absurd hw (by decide))⟩), fun cv => Op1.loadBF 1 rfl ty24 fapi_Unit_3 rfl (.tmp rfl)⟩, ⟨.inr ⟨fun cv => [], (fun _ _ _ _ => trivial), fun cv => Op1.call Try.call95 ((slices_Clone_api_Word_api_Word_spec _ _ hv1).read fun _ _ _ => tO_tL) ⟨(.tmp rfl), trivial⟩⟩, ⟨.inr ⟨fun cv => [], (fun _ _ _ _ => trivial), fun cv => Op1.fieldAddrB (o := 0) Try.underlying27 rfl (fun w => ⟨0, Try.sizeOf24 w⟩) (.tmp rfl) rfl⟩, ⟨.inr ⟨fun cv => [(1, (Bx 8 true 27 (tapi_Unit.is u) b))], (AllUpTo.at ⟨⟨(fun _ _ => ⟨rfl, rfl, trivial⟩), (fun hw => absurd hw (by decide))⟩, (fun hw => absurd hw (by decide))⟩), fun cv => Op1.loadBF 1 rfl ty24 fapi_Unit_4 rfl (.tmp rfl)⟩, ⟨.inr ⟨fun cv => [], (fun _ _ _ _ => trivial), fun cv => Op1.call Try.call95 ((slices_Clone_api_Word_api_Word_spec _ _ hv2).read fun _ _ _ => tO_tL) ⟨(.tmp rfl), trivial⟩⟩, ⟨.inr ⟨fun cv => [], (fun _ _ _ _ => trivial), fun cv => Op1.fieldAddrB (o := 0) Try.underlying27 rfl (fun w => ⟨0, Try.sizeOf24 w⟩) (.tmp rfl) rfl⟩, ⟨.inl rfl, ⟨.inr ⟨fun cv => [], (fun _ _ _ _ => trivial), fun cv => Op1.fieldAddrB (o := 0) Try.underlying27 rfl (fun w => ⟨0, Try.sizeOf24 w⟩) (.tmp rfl) rfl⟩, ⟨.inl rfl, trivial⟩⟩⟩⟩⟩⟩⟩⟩⟩⟩ ⟨⟨_, _, _, [1], (fun cv => [(1, (Bx 8 true 27 (tapi_Unit.is ({ u with Head := word } : api_Unit)) b))]), rfl, rfl, rfl, rfl, fun _ => rfl, fun _ _ => rfl, fun cv => OpR.viaU (OpR.storeBF (b := b) 1 rfl ty24 sapi_Unit_3 rfl (by decide) (.tmp rfl) (.tmp rfl))⟩, ⟨⟨_, _, _, [1], (fun cv => [(1, (Bx 8 true 27 (tapi_Unit.is ({ ({ u with Head := word } : api_Unit) with Words := word1 } : api_Unit)) b))]), rfl, rfl, rfl, rfl, fun _ => rfl, fun _ _ => rfl, fun cv => OpR.viaU (OpR.storeBF (b := b) 1 rfl ty24 sapi_Unit_4 rfl (by decide) (.tmp rfl) (.tmp rfl))⟩, trivial⟩⟩ (fun cv => ?_)
    refine WN.seq ?_
    refine W.sr ?_
    refine WL.addNil (t := tapi_Unit) (E := 27) 3 ?_
    refine WL.op rfl (Op1.assign (Opd.nilO (t := tapi_Unit))) ?_
    refine WL.ns ?_
    refine W.seq ?_
    refine W.sr ?_
    refine WL.op rfl (Op1.fieldAddrB (o := 0) Try.underlying27 rfl (fun w => ⟨0, Try.sizeOf25 w⟩) (.tmp rfl) rfl) ?_
    refine WL.op rfl (Op1.loadBF 1 rfl ty25 fapi_Unit_5 rfl (.tmp rfl)) ?_
    refine WL.op rfl (Op1.lenL Try.underlying25 (.tmp rfl)) ?_
    refine WL.op rfl (Op1.move (.int (inR64.2 (by omega)))) ?_
    refine WL.ns ?_
    refine W.block ?_
    obtain ⟨s3, hs4, hk5⟩ := bind_some hm
    clear hm
    refine W.loop (fun m (s : Int × List api_Unit × List api_Unit × (((List api_Unit)) × Tok)) => m = s.2.2.1.length ∧ ({ ({ u with Head := word } : api_Unit) with Words := word1 } : api_Unit).Kids = s.2.1 ++ s.2.2.1 ∧ s.1 = (s.2.1.length : Int) ∧ M.unit_copied_loop1 (M.unit_copied n) s.2.2.1 s.2.2.2.1 = some s3) (fun s => [(17, ((tI .i64).is s.1)), (3, (tO tapi_Unit s.2.2.2.2 s.2.2.2.1)), (1, (Bp b 0)), (2, (Bp b1 0)), (15, ((tL tapi_Unit).is (({ ({ u with Head := word } : api_Unit) with Words := word1 } : api_Unit).Kids))), (16, ((tI .i64).is ((({ ({ u with Head := word } : api_Unit) with Words := word1 } : api_Unit).Kids).length : Int)))]) (fun s => [(3, Own tapi_Unit 27 s.2.2.2.2 s.2.2.2.1.length), (1, (Bx 8 true 27 (tapi_Unit.is ({ ({ u with Head := word } : api_Unit) with Words := word1 } : api_Unit)) b)), (2, (Bx 8 true 27 (tapi_Unit.is zapi_Unit) b1))]) (({ ({ u with Head := word } : api_Unit) with Words := word1 } : api_Unit).Kids).length ((0 : Int), [], ({ ({ u with Head := word } : api_Unit) with Words := word1 } : api_Unit).Kids, (([] : List api_Unit), (none : Tok))) ⟨rfl, rfl, rfl, hs4⟩ ⟨Ent.q rfl, Ent.q rfl, Ent.q rfl, Ent.q rfl, Ent.q rfl, Ent.q rfl, trivial⟩ ⟨rfl, rfl, ⟨rfl, rfl, ⟨rfl, rfl, trivial⟩⟩⟩ ?_
    rintro m ⟨i, pre, rest1, ⟨kids, k⟩⟩ ⟨hn9, hxs6, hi7, hm⟩
    try dsimp only at hn9 hxs6 hi7 hm
    change W _ _ _ _ _ _ _ [(17, ((tI .i64).is i)), (3, (tO tapi_Unit k kids)), (1, (Bp b 0)), (2, (Bp b1 0)), (15, ((tL tapi_Unit).is (({ ({ u with Head := word } : api_Unit) with Words := word1 } : api_Unit).Kids))), (16, ((tI .i64).is ((({ ({ u with Head := word } : api_Unit) with Words := word1 } : api_Unit).Kids).length : Int)))] [(3, Own tapi_Unit 27 k kids.length), (1, (Bx 8 true 27 (tapi_Unit.is ({ ({ u with Head := word } : api_Unit) with Words := word1 } : api_Unit)) b)), (2, (Bx 8 true 27 (tapi_Unit.is zapi_Unit) b1))]
    refine W.lenL (s := 15) (.tmp rfl) fun hlen8 => ?_
    refine W.sr ?_
    refine WL.op rfl (Op1.ltI (.tmp rfl) (.tmp rfl)) ?_
    refine WL.ns ?_
    refine W.seq ?_
    refine W.cond (.tmp rfl) (fun hc11 => ?_) (fun hc11 => ?_)
    · have hp12 := of_decide_eq_true hc11
      obtain ⟨e, es, hrest14⟩ := range_more hxs6 hi7 hp12
      subst hrest14
      rw [M.unit_copied_loop1.eq_2] at hm
      refine W.skip ?_
      refine WN.seq ?_
      refine W.seq ?_
      refine W.block ?_
      refine W.sr ?_
      refine WL.op rfl (Op1.idxPre hxs6 hi7 Try.underlying25 Try.sizeOf27 (.tmp rfl) (.tmp rfl)) ?_
      refine WL.op rfl (Op1.load ty27 (.tmp rfl)) ?_
      refine WL.opR rfl (OpR.alloc 5 ze27) (fun b2 => ?_)
      refine WL.opU (OpR.storeB (b := b2) 5 Try.sizeOf27 (Cellable.is tapi_Unit e) rfl (.tmp rfl) (.tmp rfl)) (fun _ => ?_)
      refine WL.sealed (t := tapi_Unit) (u := e) 5 5 rfl rfl ?_
      refine WL.nr1 ?_
      refine WL.mv rfl rfl ?_
      refine WL.op rfl (Op1.load ty27 (.tmp rfl)) ?_
      obtain ⟨copied, hv15, hm⟩ := bind_some hm
      refine WL.op rfl (Op1.call Try.call87 (ih _ _ hv15) ⟨(.tmp rfl), trivial⟩) ?_
      refine WL.op rfl (Op1.buildSlice (n := 1) (ys := [(0, copied)]) (z := zapi_Unit) (xs := [copied]) Try.underlying25 el27 ze27 ⟨rfl, (.tmp rfl), trivial⟩ (by simp) (by decide) rfl) ?_
      obtain ⟨kids1, hv16, hm⟩ := bind_some hm
      refine WL.opR rfl (OpR.appC (key := 3) hv16 Try.underlying25 el27 (.tmp rfl) (.tmp rfl) rfl) (fun k1 => ?_)
      refine WL.gv rfl rfl ?_
      refine WL.nil ?_
      refine WN.block ?_
      refine WN.seq ?_
      refine W.region ?_
      refine WL.op rfl (Op1.addI (.tmp rfl) (.int (inR64.2 (by omega))) (range_inR hi7 hp12 hlen8)) ?_
      refine WL.mv rfl rfl ?_
      refine WL.nil ?_
      exact WN.again es.length (i + 1, pre ++ [e], es, (kids1, k1)) (range_lt hn9) ⟨rfl, range_step hxs6, range_idx hi7, hm⟩ ⟨Ent.q rfl, Ent.q rfl, Ent.q rfl, Ent.q rfl, Ent.q rfl, Ent.q rfl, trivial⟩ ⟨rfl, rfl, ⟨rfl, rfl, ⟨rfl, rfl, trivial⟩⟩⟩
    · have hrest14 := range_end hxs6 hi7 (of_decide_eq_false hc11)
      subst hrest14
      rw [M.unit_copied_loop1.eq_1] at hm
      refine W.exit rfl ?_
      have hr17 := Option.some.inj hm
      clear hm
      subst hr17
      have hm := hk5
      try dsimp only at hm
      refine WN.seq ?_
      refine W.sr ?_
      refine WL.mv rfl rfl ?_
      refine WL.op rfl (Op1.fieldAddrB (o := 0) Try.underlying27 rfl (fun w => ⟨0, Try.sizeOf25 w⟩) (.tmp rfl) rfl) ?_
      refine WL.opU (OpR.storeBF (b := b) 1 rfl ty25 sapi_Unit_5 rfl (by decide) (.tmp rfl) (Opd.own (.tmp rfl))) (fun _ => ?_)
      refine WL.nr ?_
      refine WL.op rfl (Op1.loadB 1 Try.isAgg27 Try.sizeOf27 rfl (.tmp rfl)) ?_
      refine WL.opU (OpR.storeB (b := b1) 2 Try.sizeOf27 (Cellable.is tapi_Unit ({ ({ ({ u with Head := word } : api_Unit) with Words := word1 } : api_Unit) with Kids := kids } : api_Unit)) rfl (.tmp rfl) (.tmp rfl)) (fun _ => ?_)
      refine WL.ns ?_
      cases hm
      exact W.retQ1 () rfl (ResAt.cell 2 Try.isAgg27 Try.sizeOf27 rfl (.tmp rfl)) trivial

theorem unit_Find_spec (n : Nat) (u : api_Unit) (id : api_Id) (r : api_Unit × Bool) (hm : M.unit_Find n u id = some r) : FSpec Try.prog 75 [(tapi_Unit.is u), (tapi_Id.is id)] (Asn.tuple2 (tapi_Unit.is r.1) (tB.is r.2)) := by
  unfold M.unit_Find at hm
  refine FSpec.of Try.func75 rfl rfl rfl (fun g0 => ?_)
  refine W.sr ?_
  refine WL.op rfl (Op1.box (.tmp rfl)) ?_
  refine WL.op rfl (Op1.box (.tmp rfl)) ?_
  refine WL.opR rfl (OpR.alloc 4 ze27) (fun b => ?_)
  refine WL.op rfl (Op1.assign .bool) ?_
  refine WL.nr ?_
  refine WL.op rfl (Op1.load ty27 (.tmp rfl)) ?_
  refine WL.op rfl (Op1.load ty23 (.tmp rfl)) ?_
  obtain ⟨way, hv1, hm⟩ := bind_some hm
  refine WL.op rfl (Op1.call Try.call81 (unit_way_spec _ _ _ _ hv1) ⟨(.tmp rfl), (.tmp rfl), trivial⟩) ?_
  refine WL.gv rfl rfl ?_
  refine WL.ns ?_
  refine W.seq ?_
  refine W.sr ?_
  refine WL.mv rfl rfl ?_
  refine WL.op rfl (Op1.lenL Try.underlying25 (Opd.tLn (.tmp rfl))) ?_
  refine WL.op rfl (Op1.eqI (.tmp rfl) (.int (inR64.2 (by omega)))) ?_
  refine WL.ns ?_
  refine W.cond (.tmp rfl) (fun hc2 => ?_) (fun hc2 => ?_)
  · have hp3 := of_decide_eq_true hc2
    rw [if_pos hp3] at hm
    refine W.sr ?_
    refine WL.op rfl (Op1.build (s := tapi_Unit) (x := (⟨zapi_Id, (0 : Int), ([] : Str), ([] : List api_Word), ([] : List api_Word), ([] : List api_Unit)⟩ : api_Unit)) zapi_Unit_f rfl Try.underlying27 (zapi_Unit_sz _ Try.underlying27) ze27 rfl) ?_
    refine WL.opU (OpR.storeB (b := b) 4 Try.sizeOf27 (Cellable.is tapi_Unit (⟨zapi_Id, (0 : Int), ([] : Str), ([] : List api_Word), ([] : List api_Word), ([] : List api_Unit)⟩ : api_Unit)) rfl (.tmp rfl) (.tmp rfl)) (fun _ => ?_)
    refine WL.op rfl (Op1.assign .bool) ?_
    refine WL.ns ?_
    cases hm
    exact W.retQ2 () rfl rfl (ResAt.cell 4 Try.isAgg27 Try.sizeOf27 rfl (.tmp rfl)) (ResAt.tmp (.tmp rfl)) trivial
  · have hp3 := of_decide_eq_false hc2
    rw [if_neg hp3] at hm
    refine W.skip ?_
    refine WN.seq ?_
    refine W.sr ?_
    refine WL.mv rfl rfl ?_
    refine WL.mv rfl rfl ?_
    refine WL.op rfl (Op1.lenL Try.underlying25 (Opd.tLn (.tmp rfl))) ?_
    obtain ⟨v, hv4, hm⟩ := bind_some hm
    refine WL.op rfl (Op1.subC hv4 (.tmp rfl) (.int (inR64.2 (by omega)))) ?_
    obtain ⟨v1, hv5, hm⟩ := bind_some hm
    refine WL.op rfl (Op1.idx hv5 Try.underlying25 Try.sizeOf27 (Opd.tLn (.tmp rfl)) (.tmp rfl)) ?_
    refine WL.op rfl (Op1.load ty27 (.tmp rfl)) ?_
    obtain ⟨copied, hv6, hm⟩ := bind_some hm
    refine WL.op rfl (Op1.call Try.call87 (unit_copied_spec _ _ _ hv6) ⟨(.tmp rfl), trivial⟩) ?_
    refine WL.opU (OpR.storeB (b := b) 4 Try.sizeOf27 (Cellable.is tapi_Unit copied) rfl (.tmp rfl) (.tmp rfl)) (fun _ => ?_)
    refine WL.op rfl (Op1.assign .bool) ?_
    refine WL.ns ?_
    cases hm
    exact W.retQ2 () rfl rfl (ResAt.cell 4 Try.isAgg27 Try.sizeOf27 rfl (.tmp rfl)) (ResAt.tmp (.tmp rfl)) trivial

theorem target_into_spec (n : Nat) (u : api_Unit) (id : api_Id) (number : Int → Option Int) (r : target_spot × Int) (hm : M.target_into n u id number = some r) : FSpec Try.prog 47 [(tapi_Unit.is u), (tapi_Id.is id), (tF Try.prog (fun s : Int × Int => number s.1 = some s.2) (fun s : Int × Int => [(tI .i64).is s.1]) (fun s : Int × Int => ((tI .i64).is s.2)))] (Asn.tuple2 (ttarget_spot.is r.1) ((tI .i64).is r.2)) := by
  unfold M.target_into at hm
  refine FSpec.of Try.func47 rfl rfl rfl (fun g0 => ?_)
  refine W.sr ?_
  refine WL.op rfl (Op1.box (.tmp rfl)) ?_
  refine WL.op rfl (Op1.box (.tmp rfl)) ?_
  refine WL.opR rfl (OpR.alloc 6 ze66) (fun b => ?_)
  refine WL.op rfl (Op1.assign (.int (inR64.2 (by omega)))) ?_
  refine WL.nr ?_
  refine WL.op rfl (Op1.load ty27 (.tmp rfl)) ?_
  refine WL.op rfl (Op1.load ty23 (.tmp rfl)) ?_
  obtain ⟨find, hv1, hm⟩ := bind_some hm
  refine WL.op rfl (Op1.call Try.call75 (unit_Find_spec _ _ _ _ hv1) ⟨(.tmp rfl), (.tmp rfl), trivial⟩) ?_
  refine WL.mv rfl rfl ?_
  refine WL.op rfl (Op1.extract0 (.tmp rfl)) ?_
  refine WL.op rfl (Op1.extract1 (.tmp rfl)) ?_
  refine WL.opR rfl (OpR.alloc 8 ze27) (fun b1 => ?_)
  refine WL.opU (OpR.storeB (b := b1) 8 Try.sizeOf27 (Cellable.is tapi_Unit find.1) rfl (.tmp rfl) (.tmp rfl)) (fun _ => ?_)
  refine WL.sealed (t := tapi_Unit) (u := find.1) 8 8 rfl rfl ?_
  refine WL.gv rfl rfl ?_
  refine WL.ns ?_
  refine W.seq ?_
  obtain ⟨v, hv2, hm⟩ := bind_some hm
  refine W.weakR (res' := [(6, (Bx 4 true 66 (ttarget_spot.is ztarget_spot) b))]) ⟨rfl, rfl, trivial⟩ ?_
  refine W.drawM [.c (tapi_Id.is id), .c (tF Try.prog (fun s : Int × Int => number s.1 = some s.2) (fun s : Int × Int => [(tI .i64).is s.1]) (fun s : Int × Int => ((tI .i64).is s.2))), .c ((tL tapi_Unit).ptr find.1.Kids), .c ((tL tapi_Unit).is find.1.Kids), .c ((tI .i64).is (find.1.Kids.length : Int)), .c ((tI .i64).is v), .c (ttarget_spot.is (⟨id, v⟩ : target_spot)), .c Asn.any, .c ((tI .i64).is (0 : Int))] [([], [4]), ([], [2]), ([], [8]), ([2], []), ([3], []), ([1, 4], []), ([0, 5], []), ([6], [6]), ([], [])] [7] [[], [], [], [], [], [], [], [], []] (fun m cv => match m with | 0 => [(6, (Bx 4 true 66 (ttarget_spot.is ztarget_spot) b))] | _ => [(6, (Bx 4 true 66 (ttarget_spot.is (⟨id, v⟩ : target_spot)) b))]) (fun _ => none) Try.mixed rfl rfl rfl rfl rfl ⟨fun _ _ _ _ => rfl, ⟨fun _ _ _ _ => rfl, ⟨fun _ _ _ _ => rfl, ⟨fun _ _ _ _ => rfl, ⟨fun _ _ _ _ => rfl, ⟨fun _ _ _ _ => rfl, ⟨fun _ _ _ _ => rfl, ⟨fun _ _ _ _ => rfl, ⟨fun _ _ _ _ => rfl, trivial⟩⟩⟩⟩⟩⟩⟩⟩⟩ rfl ⟨.inr ⟨fun cv => [], (fun _ _ _ _ => trivial), fun cv => Op1.load ty23 (.tmp rfl)⟩, ⟨.inr ⟨fun cv => [], (fun _ _ _ _ => trivial), fun cv => Op1.move (.tmp rfl)⟩, ⟨.inr ⟨fun cv => [], (fun _ _ _ _ => trivial), fun cv => Op1.fieldAddr Try.underlying27 rfl (fun w => ⟨0, Try.sizeOf25 w⟩) fapi_Unit_5 (.tmp rfl)⟩, ⟨.inr ⟨fun cv => [], (fun _ _ _ _ => trivial), fun cv => Op1.load ty25 (.tmp rfl)⟩, ⟨.inr ⟨fun cv => [], (fun _ _ _ _ => trivial), fun cv => Op1.lenL Try.underlying25 (.tmp rfl)⟩, ⟨.inr ⟨fun cv => [], (fun _ _ _ _ => trivial), fun cv => Op1.callF (ok := (fun s : Int × Int => number s.1 = some s.2)) (As := (fun s : Int × Int => [(tI .i64).is s.1])) (A := (fun s : Int × Int => ((tI .i64).is s.2))) (s := ((find.1.Kids.length : Int), v)) (.tmp rfl) hv2 ⟨(.tmp rfl), trivial⟩⟩, ⟨.inr ⟨fun cv => [], (fun _ _ _ _ => trivial), fun cv => Op1.build (s := ttarget_spot) (x := (⟨id, v⟩ : target_spot)) ztarget_spot_f rfl Try.underlying66 (ztarget_spot_sz _ Try.underlying66) ze66 ⟨_, tapi_Id, id, _, _, rfl, Try.sizeOf23, (.tmp rfl), starget_spot_0, ⟨_, (tI .i64), v, _, _, rfl, Try.sizeOf3, (.tmp rfl), starget_spot_1, rfl⟩⟩⟩, ⟨.inl rfl, ⟨.inr ⟨fun cv => [], (fun _ _ _ _ => trivial), fun cv => Op1.assign (.int (inR64.2 (by omega)))⟩, trivial⟩⟩⟩⟩⟩⟩⟩⟩⟩ ⟨⟨_, _, _, [6], (fun cv => [(6, (Bx 4 true 66 (ttarget_spot.is (⟨id, v⟩ : target_spot)) b))]), rfl, rfl, rfl, rfl, fun _ => rfl, fun _ _ => rfl, fun cv => OpR.viaU (OpR.storeB (b := b) 6 Try.sizeOf66 (Cellable.is ttarget_spot (⟨id, v⟩ : target_spot)) rfl (.tmp rfl) (.tmp rfl))⟩, trivial⟩ (fun cv => ?_)
  refine WN.seq ?_
  cases hm
  exact W.retQ2 () rfl rfl (ResAt.cell 6 Try.isAgg66 Try.sizeOf66 rfl (.tmp rfl)) (ResAt.tmp (.tmp rfl)) trivial

theorem target_leads_1_1_spec (a : Int) (r : Int) (hm : M.target_leads_1_1 a = some r) : FSpec Try.prog 48 [((tI .i64).is a)] ((tI .i64).is r) := by
  unfold M.target_leads_1_1 at hm
  refine FSpec.of Try.func48 rfl rfl rfl (fun g0 => ?_)
  refine W.sr ?_
  refine WL.op rfl (Op1.assign (.int (inR64.2 (by omega)))) ?_
  refine WL.nr ?_
  refine WL.op rfl (Op1.assign (.int (inR64.2 (by omega)))) ?_
  refine WL.ns ?_
  cases hm
  exact W.ret1 () rfl (.tmp rfl) trivial

theorem target_leads_1_spec (n : Nat) (u : api_Unit) (id : api_Id) (r : target_spot × Int) (hm : M.target_leads_1 n u id = some r) : FSpec Try.prog 46 [(tapi_Unit.is u), (tapi_Id.is id)] (Asn.tuple2 (ttarget_spot.is r.1) ((tI .i64).is r.2)) := by
  unfold M.target_leads_1 at hm
  refine FSpec.of Try.func46 rfl rfl rfl (fun g0 => ?_)
  refine W.sr ?_
  refine WL.op rfl (Op1.box (.tmp rfl)) ?_
  refine WL.op rfl (Op1.box (.tmp rfl)) ?_
  refine WL.opR rfl (OpR.alloc 4 ze66) (fun b => ?_)
  refine WL.op rfl (Op1.assign (.int (inR64.2 (by omega)))) ?_
  refine WL.nr ?_
  refine WL.op rfl (Op1.load ty27 (.tmp rfl)) ?_
  refine WL.op rfl (Op1.load ty23 (.tmp rfl)) ?_
  obtain ⟨into, hv1, hm⟩ := bind_some hm
  refine WL.op rfl (Op1.call Try.call47 (target_into_spec _ _ _ _ _ hv1) ⟨(.tmp rfl), (.tmp rfl), (Opd.fn Try.call48 (fun s hs => target_leads_1_1_spec _ _ hs)), trivial⟩) ?_
  refine WL.op rfl (Op1.extract0 (.tmp rfl)) ?_
  refine WL.op rfl (Op1.extract1 (.tmp rfl)) ?_
  refine WL.opU (OpR.storeB (b := b) 4 Try.sizeOf66 (Cellable.is ttarget_spot into.1) rfl (.tmp rfl) (.tmp rfl)) (fun _ => ?_)
  refine WL.gv rfl rfl ?_
  refine WL.ns ?_
  cases hm
  exact W.retQ2 () rfl rfl (ResAt.cell 4 Try.isAgg66 Try.sizeOf66 rfl (.tmp rfl)) (ResAt.tmp (.tmp rfl)) trivial

theorem target_leads_2_1_spec (kids : Int) (r : Int) (hm : M.target_leads_2_1 kids = some r) : FSpec Try.prog 50 [((tI .i64).is kids)] ((tI .i64).is r) := by
  unfold M.target_leads_2_1 at hm
  refine FSpec.of Try.func50 rfl rfl rfl (fun g0 => ?_)
  refine W.sr ?_
  refine WL.op rfl (Op1.assign (.int (inR64.2 (by omega)))) ?_
  refine WL.nr ?_
  refine WL.mv rfl rfl ?_
  refine WL.gv rfl rfl ?_
  refine WL.ns ?_
  cases hm
  exact W.ret1 () rfl (.tmp rfl) trivial

theorem target_leads_2_spec (n : Nat) (u : api_Unit) (id : api_Id) (r : target_spot × Int) (hm : M.target_leads_2 n u id = some r) : FSpec Try.prog 49 [(tapi_Unit.is u), (tapi_Id.is id)] (Asn.tuple2 (ttarget_spot.is r.1) ((tI .i64).is r.2)) := by
  unfold M.target_leads_2 at hm
  refine FSpec.of Try.func49 rfl rfl rfl (fun g0 => ?_)
  refine W.sr ?_
  refine WL.op rfl (Op1.box (.tmp rfl)) ?_
  refine WL.op rfl (Op1.box (.tmp rfl)) ?_
  refine WL.opR rfl (OpR.alloc 4 ze66) (fun b => ?_)
  refine WL.op rfl (Op1.assign (.int (inR64.2 (by omega)))) ?_
  refine WL.nr ?_
  refine WL.op rfl (Op1.load ty27 (.tmp rfl)) ?_
  refine WL.op rfl (Op1.load ty23 (.tmp rfl)) ?_
  obtain ⟨into, hv1, hm⟩ := bind_some hm
  refine WL.op rfl (Op1.call Try.call47 (target_into_spec _ _ _ _ _ hv1) ⟨(.tmp rfl), (.tmp rfl), (Opd.fn Try.call50 (fun s hs => target_leads_2_1_spec _ _ hs)), trivial⟩) ?_
  refine WL.op rfl (Op1.extract0 (.tmp rfl)) ?_
  refine WL.op rfl (Op1.extract1 (.tmp rfl)) ?_
  refine WL.opU (OpR.storeB (b := b) 4 Try.sizeOf66 (Cellable.is ttarget_spot into.1) rfl (.tmp rfl) (.tmp rfl)) (fun _ => ?_)
  refine WL.gv rfl rfl ?_
  refine WL.ns ?_
  cases hm
  exact W.retQ2 () rfl rfl (ResAt.cell 4 Try.isAgg66 Try.sizeOf66 rfl (.tmp rfl)) (ResAt.tmp (.tmp rfl)) trivial

theorem unit_Parent_1_spec (n : Nat) (k : api_Unit) (c : api_Id) (r : Bool) (hm : M.unit_Parent_1 n k c = some r) : FSpec Try.prog 83 [(tapi_Unit.is k), (tapi_Id.ptr c)] (tB.is r) := by
  unfold M.unit_Parent_1 at hm
  refine FSpec.of Try.func83 rfl rfl rfl (fun g0 => ?_)
  refine W.sr ?_
  refine WL.op rfl (Op1.box (.tmp rfl)) ?_
  refine WL.op rfl (Op1.assign .bool) ?_
  refine WL.nr ?_
  refine WL.op rfl (Op1.load ty27 (.tmp rfl)) ?_
  refine WL.op rfl (Op1.load ty23 (.tmp rfl)) ?_
  obtain ⟨way, hv1, hm⟩ := bind_some hm
  refine WL.op rfl (Op1.call Try.call81 (unit_way_spec _ _ _ _ hv1) ⟨(.tmp rfl), (.tmp rfl), trivial⟩) ?_
  refine WL.op rfl (Op1.neNil Try.underlying25 (.tmp rfl)) ?_
  refine WL.gv rfl rfl ?_
  refine WL.ns ?_
  cases hm
  exact W.ret1 () rfl (.tmp rfl) trivial

theorem slices_IndexFunc_api_Unit_api_Unit_spec (n : Nat) (s0_ : List api_Unit) (f : api_Unit → Option Bool) (r : Int) (hm : M.slices_IndexFunc_api_Unit_api_Unit n s0_ f = some r) : FSpec Try.prog 82 [((tL tapi_Unit).is s0_), (tF Try.prog (fun s : api_Unit × Bool => f s.1 = some s.2) (fun s : api_Unit × Bool => [tapi_Unit.is s.1]) (fun s : api_Unit × Bool => (tB.is s.2)))] ((tI .i64).is r) := by
  unfold M.slices_IndexFunc_api_Unit_api_Unit at hm
  refine FSpec.of Try.func82 rfl rfl rfl (fun g0 => ?_)
  refine W.sr ?_
  refine WL.op rfl (Op1.assign (.int (inR64.2 (by omega)))) ?_
  refine WL.ns ?_
  refine W.seq ?_
  refine W.sr ?_
  refine WL.mv rfl rfl ?_
  refine WL.op rfl (Op1.lenL Try.underlying25 (.tmp rfl)) ?_
  refine WL.op rfl (Op1.move (.int (inR64.2 (by omega)))) ?_
  refine WL.ns ?_
  refine W.block ?_
  obtain ⟨s1, hs2, hk3⟩ := bind_some hm
  clear hm
  refine W.loop (fun m (s : Int) => M.slices_IndexFunc_api_Unit_api_Unit_loop1 s0_ f m s = some s1) (fun s => [(8, ((tI .i64).is s)), (0, ((tL tapi_Unit).is s0_)), (1, (tF Try.prog (fun s : api_Unit × Bool => f s.1 = some s.2) (fun s : api_Unit × Bool => [tapi_Unit.is s.1]) (fun s : api_Unit × Bool => (tB.is s.2)))), (7, ((tI .i64).is (s0_.length : Int)))]) (fun s => []) _ (0 : Int) hs2 ⟨Ent.q rfl, Ent.q rfl, Ent.q rfl, Ent.q rfl, trivial⟩ trivial ?_
  rintro n4 v hm
  try dsimp only at hm
  change W _ _ _ _ _ _ _ [(8, ((tI .i64).is v)), (0, ((tL tapi_Unit).is s0_)), (1, (tF Try.prog (fun s : api_Unit × Bool => f s.1 = some s.2) (fun s : api_Unit × Bool => [tapi_Unit.is s.1]) (fun s : api_Unit × Bool => (tB.is s.2)))), (7, ((tI .i64).is (s0_.length : Int)))] []
  cases n4 with
  | zero => rw [M.slices_IndexFunc_api_Unit_api_Unit_loop1.eq_1] at hm; cases hm
  | succ n4 =>
    rw [M.slices_IndexFunc_api_Unit_api_Unit_loop1.eq_2] at hm
    refine W.sr ?_
    refine WL.op rfl (Op1.ltI (.tmp rfl) (.tmp rfl)) ?_
    refine WL.ns ?_
    refine W.seq ?_
    refine W.cond (.tmp rfl) (fun hc5 => ?_) (fun hc5 => ?_)
    · have hp6 := of_decide_eq_true hc5
      rw [if_pos hp6] at hm
      refine W.skip ?_
      refine WN.seq ?_
      refine W.seq ?_
      refine W.block ?_
      refine W.sr ?_
      refine WL.mv rfl rfl ?_
      refine WL.gv rfl rfl ?_
      refine WL.nr ?_
      refine WL.mv rfl rfl ?_
      refine WL.mv rfl rfl ?_
      refine WL.mv rfl rfl ?_
      obtain ⟨v1, hv7, hm⟩ := bind_some hm
      refine WL.op rfl (Op1.idx hv7 Try.underlying25 Try.sizeOf27 (.tmp rfl) (.tmp rfl)) ?_
      refine WL.op rfl (Op1.load ty27 (.tmp rfl)) ?_
      obtain ⟨v2, hv8, hm⟩ := bind_some hm
      refine WL.op rfl (Op1.callF (ok := (fun s : api_Unit × Bool => f s.1 = some s.2)) (As := (fun s : api_Unit × Bool => [tapi_Unit.is s.1])) (A := (fun s : api_Unit × Bool => (tB.is s.2))) (s := (v1, v2)) (.tmp rfl) hv8 ⟨(.tmp rfl), trivial⟩) ?_
      refine WL.ns ?_
      refine W.cond (.tmp rfl) (fun hc9 => ?_) (fun hc9 => ?_)
      · have hp10 := hc9
        rw [if_pos hp10] at hm
        refine W.sr ?_
        refine WL.mv rfl rfl ?_
        refine WL.gv rfl rfl ?_
        refine WL.ns ?_
        have hr11 := Option.some.inj hm
        clear hm
        subst hr11
        have hm := hk3
        try dsimp only at hm
        cases hm
        exact W.ret1 () rfl (.tmp rfl) trivial
      · have hp10 := ne_of_false hc9
        rw [if_neg hp10] at hm
        refine W.skip ?_
        refine WN.block ?_
        refine WN.seq ?_
        refine W.region ?_
        refine WL.lenL (s := 0) (.tmp rfl) fun hl12 => ?_
        refine WL.op rfl (Op1.addI1 (.tmp rfl) (.int (inR64.2 (by omega))) hp6 hl12) ?_
        refine WL.mv rfl rfl ?_
        refine WL.nil ?_
        exact WN.again n4 (v + 1) (Nat.lt_succ_self n4) hm ⟨Ent.q rfl, Ent.q rfl, Ent.q rfl, Ent.q rfl, trivial⟩ trivial
    · have hp6 := of_decide_eq_false hc5
      rw [if_neg hp6] at hm
      refine W.exit rfl ?_
      have hr13 := Option.some.inj hm
      clear hm
      subst hr13
      have hm := hk3
      try dsimp only at hm
      refine WN.seq ?_
      refine W.sr ?_
      refine WL.op rfl (Op1.assign (.int (inR64.2 (by omega)))) ?_
      refine WL.ns ?_
      cases hm
      exact W.ret1 () rfl (.tmp rfl) trivial

theorem unit_Parent_spec (n : Nat) (u : api_Unit) (id : api_Id) (r : api_Id × Int × Bool) (hm : M.unit_Parent n u id = some r) : FSpec Try.prog 67 [(tapi_Unit.is u), (tapi_Id.is id)] (Asn.tuple3 (tapi_Id.is r.1) ((tI .i64).is r.2.1) (tB.is r.2.2)) := by
  unfold M.unit_Parent at hm
  refine FSpec.of Try.func67 rfl rfl rfl (fun g0 => ?_)
  refine W.sr ?_
  refine WL.op rfl (Op1.box (.tmp rfl)) ?_
  refine WL.op rfl (Op1.box (.tmp rfl)) ?_
  refine WL.opR rfl (OpR.alloc 4 ze23) (fun b => ?_)
  refine WL.op rfl (Op1.assign (.int (inR64.2 (by omega)))) ?_
  refine WL.op rfl (Op1.assign .bool) ?_
  refine WL.nr ?_
  refine WL.op rfl (Op1.load ty27 (.tmp rfl)) ?_
  refine WL.op rfl (Op1.load ty23 (.tmp rfl)) ?_
  obtain ⟨way, hv1, hm⟩ := bind_some hm
  refine WL.op rfl (Op1.call Try.call81 (unit_way_spec _ _ _ _ hv1) ⟨(.tmp rfl), (.tmp rfl), trivial⟩) ?_
  refine WL.gv rfl rfl ?_
  refine WL.ns ?_
  refine W.seq ?_
  refine W.sr ?_
  refine WL.mv rfl rfl ?_
  refine WL.op rfl (Op1.lenL Try.underlying25 (Opd.tLn (.tmp rfl))) ?_
  refine WL.op rfl (Op1.ltI (.tmp rfl) (.int (inR64.2 (by omega)))) ?_
  refine WL.ns ?_
  refine W.cond (.tmp rfl) (fun hc2 => ?_) (fun hc2 => ?_)
  · have hp3 := of_decide_eq_true hc2
    rw [if_pos hp3] at hm
    refine W.sr ?_
    refine WL.op rfl (Op1.build (s := tapi_Id) (x := (⟨(0 : Int), (0 : Int), (0 : Int)⟩ : api_Id)) zapi_Id_f rfl Try.underlying23 (zapi_Id_sz _ Try.underlying23) ze23 rfl) ?_
    refine WL.opU (OpR.storeB (b := b) 4 Try.sizeOf23 (Cellable.is tapi_Id (⟨(0 : Int), (0 : Int), (0 : Int)⟩ : api_Id)) rfl (.tmp rfl) (.tmp rfl)) (fun _ => ?_)
    refine WL.op rfl (Op1.assign (.int (inR64.2 (by omega)))) ?_
    refine WL.op rfl (Op1.assign .bool) ?_
    refine WL.ns ?_
    cases hm
    exact W.retQ3 () rfl rfl (ResAt.cell 4 Try.isAgg23 Try.sizeOf23 rfl (.tmp rfl)) (ResAt.tmp (.tmp rfl)) (ResAt.tmp (.tmp rfl)) trivial
  · have hp3 := of_decide_eq_false hc2
    rw [if_neg hp3] at hm
    refine W.skip ?_
    refine WN.seq ?_
    refine W.sr ?_
    refine WL.mv rfl rfl ?_
    refine WL.mv rfl rfl ?_
    refine WL.op rfl (Op1.lenL Try.underlying25 (Opd.tLn (.tmp rfl))) ?_
    obtain ⟨v, hv4, hm⟩ := bind_some hm
    refine WL.op rfl (Op1.subC hv4 (.tmp rfl) (.int (inR64.2 (by omega)))) ?_
    obtain ⟨v1, hv5, hm⟩ := bind_some hm
    refine WL.op rfl (Op1.idx hv5 Try.underlying25 Try.sizeOf27 (Opd.tLn (.tmp rfl)) (.tmp rfl)) ?_
    refine WL.op rfl (Op1.load ty27 (.tmp rfl)) ?_
    refine WL.opR rfl (OpR.alloc 8 ze27) (fun b1 => ?_)
    refine WL.opU (OpR.storeB (b := b1) 8 Try.sizeOf27 (Cellable.is tapi_Unit v1) rfl (.tmp rfl) (.tmp rfl)) (fun _ => ?_)
    refine WL.sealed (t := tapi_Unit) (u := v1) 8 8 rfl rfl ?_
    refine WL.nr ?_
    refine WL.op rfl (Op1.fieldAddr Try.underlying27 rfl (fun w => ⟨0, Try.sizeOf25 w⟩) fapi_Unit_5 (.tmp rfl)) ?_
    refine WL.op rfl (Op1.load ty25 (.tmp rfl)) ?_
    refine WL.op rfl (Op1.makeFunc (ok := (fun s : api_Unit × Bool => (fun s0 => M.unit_Parent_1 n s0 id) s.1 = some s.2)) (As := (fun s : api_Unit × Bool => [tapi_Unit.is s.1])) (A := (fun s : api_Unit × Bool => (tB.is s.2))) (Cs := [(tapi_Id.ptr id)]) (cap := [.tmp 3]) Try.call83 ⟨(.tmp rfl), trivial⟩ (fun s hs => unit_Parent_1_spec _ _ _ _ hs)) ?_
    obtain ⟨unit, hv6, hm⟩ := bind_some hm
    refine WL.op rfl (Op1.call Try.call82 (slices_IndexFunc_api_Unit_api_Unit_spec _ _ _ _ hv6) ⟨(.tmp rfl), (.tmp rfl), trivial⟩) ?_
    refine WL.gv rfl rfl ?_
    refine WL.nr ?_
    refine WL.op rfl (Op1.fieldAddr Try.underlying27 rfl (fun w => ⟨2, Try.sizeOf23 w⟩) fapi_Unit_0 (.tmp rfl)) ?_
    refine WL.op rfl (Op1.load ty23 (.tmp rfl)) ?_
    refine WL.mv rfl rfl ?_
    refine WL.opU (OpR.storeB (b := b) 4 Try.sizeOf23 (Cellable.is tapi_Id v1.Id) rfl (.tmp rfl) (.tmp rfl)) (fun _ => ?_)
    refine WL.gv rfl rfl ?_
    refine WL.op rfl (Op1.assign .bool) ?_
    refine WL.ns ?_
    cases hm
    exact W.retQ3 () rfl rfl (ResAt.cell 4 Try.isAgg23 Try.sizeOf23 rfl (.tmp rfl)) (ResAt.tmp (.tmp rfl)) (ResAt.tmp (.tmp rfl)) trivial

theorem target_beside_spec (n : Nat) (u : api_Unit) (id : api_Id) (behind : Int) (r : target_spot × Int) (hm : M.target_beside n u id behind = some r) : FSpec Try.prog 52 [(tapi_Unit.is u), (tapi_Id.is id), ((tI .i64).is behind)] (Asn.tuple2 (ttarget_spot.is r.1) ((tI .i64).is r.2)) := by
  unfold M.target_beside at hm
  refine FSpec.of Try.func52 rfl rfl rfl (fun g0 => ?_)
  refine W.sr ?_
  refine WL.op rfl (Op1.box (.tmp rfl)) ?_
  refine WL.op rfl (Op1.box (.tmp rfl)) ?_
  refine WL.opR rfl (OpR.alloc 6 ze66) (fun b => ?_)
  refine WL.op rfl (Op1.assign (.int (inR64.2 (by omega)))) ?_
  refine WL.nr ?_
  refine WL.op rfl (Op1.load ty27 (.tmp rfl)) ?_
  refine WL.op rfl (Op1.load ty23 (.tmp rfl)) ?_
  obtain ⟨parent, hv1, hm⟩ := bind_some hm
  refine WL.op rfl (Op1.call Try.call67 (unit_Parent_spec _ _ _ _ hv1) ⟨(.tmp rfl), (.tmp rfl), trivial⟩) ?_
  refine WL.mv rfl rfl ?_
  refine WL.op rfl (Op1.extract30 (.tmp rfl)) ?_
  refine WL.op rfl (Op1.extract31 (.tmp rfl)) ?_
  refine WL.op rfl (Op1.extract32 (.tmp rfl)) ?_
  refine WL.opR rfl (OpR.alloc 8 ze23) (fun b1 => ?_)
  refine WL.opU (OpR.storeB (b := b1) 8 Try.sizeOf23 (Cellable.is tapi_Id parent.1) rfl (.tmp rfl) (.tmp rfl)) (fun _ => ?_)
  refine WL.sealed (t := tapi_Id) (u := parent.1) 8 8 rfl rfl ?_
  refine WL.gv rfl rfl ?_
  refine WL.gv rfl rfl ?_
  refine WL.ns ?_
  refine W.seq ?_
  refine W.sr ?_
  refine WL.mv rfl rfl ?_
  refine WL.op rfl (Op1.notB (.tmp rfl)) ?_
  refine WL.ns ?_
  refine W.cond (.tmp rfl) (fun hc2 => ?_) (fun hc2 => ?_)
  · have hp3 := not_pos hc2
    rw [if_pos hp3] at hm
    refine W.sr ?_
    refine WL.op rfl (Op1.build (s := ttarget_spot) (x := (⟨zapi_Id, (0 : Int)⟩ : target_spot)) ztarget_spot_f rfl Try.underlying66 (ztarget_spot_sz _ Try.underlying66) ze66 rfl) ?_
    refine WL.opU (OpR.storeB (b := b) 6 Try.sizeOf66 (Cellable.is ttarget_spot (⟨zapi_Id, (0 : Int)⟩ : target_spot)) rfl (.tmp rfl) (.tmp rfl)) (fun _ => ?_)
    refine WL.op rfl (Op1.assign (.int (inR64.2 (by omega)))) ?_
    refine WL.ns ?_
    cases hm
    exact W.retQ2 () rfl rfl (ResAt.cell 6 Try.isAgg66 Try.sizeOf66 rfl (.tmp rfl)) (ResAt.tmp (.tmp rfl)) trivial
  · have hp3 := not_neg hc2
    rw [if_neg hp3] at hm
    refine W.skip ?_
    refine WN.seq ?_
    refine W.sr ?_
    refine WL.op rfl (Op1.load ty23 (.tmp rfl)) ?_
    refine WL.mv rfl rfl ?_
    refine WL.mv rfl rfl ?_
    obtain ⟨v, hv4, hm⟩ := bind_some hm
    refine WL.op rfl (Op1.addC hv4 (.tmp rfl) (.tmp rfl)) ?_
    refine WL.op rfl (Op1.build (s := ttarget_spot) (x := (⟨parent.1, v⟩ : target_spot)) ztarget_spot_f rfl Try.underlying66 (ztarget_spot_sz _ Try.underlying66) ze66 ⟨_, tapi_Id, parent.1, _, _, rfl, Try.sizeOf23, (.tmp rfl), starget_spot_0, ⟨_, (tI .i64), v, _, _, rfl, Try.sizeOf3, (.tmp rfl), starget_spot_1, rfl⟩⟩) ?_
    refine WL.opU (OpR.storeB (b := b) 6 Try.sizeOf66 (Cellable.is ttarget_spot (⟨parent.1, v⟩ : target_spot)) rfl (.tmp rfl) (.tmp rfl)) (fun _ => ?_)
    refine WL.op rfl (Op1.assign (.int (inR64.2 (by omega)))) ?_
    refine WL.ns ?_
    cases hm
    exact W.retQ2 () rfl rfl (ResAt.cell 6 Try.isAgg66 Try.sizeOf66 rfl (.tmp rfl)) (ResAt.tmp (.tmp rfl)) trivial

theorem target_leads_3_spec (n : Nat) (u : api_Unit) (id : api_Id) (r : target_spot × Int) (hm : M.target_leads_3 n u id = some r) : FSpec Try.prog 51 [(tapi_Unit.is u), (tapi_Id.is id)] (Asn.tuple2 (ttarget_spot.is r.1) ((tI .i64).is r.2)) := by
  unfold M.target_leads_3 at hm
  refine FSpec.of Try.func51 rfl rfl rfl (fun g0 => ?_)
  refine W.sr ?_
  refine WL.op rfl (Op1.box (.tmp rfl)) ?_
  refine WL.op rfl (Op1.box (.tmp rfl)) ?_
  refine WL.opR rfl (OpR.alloc 4 ze66) (fun b => ?_)
  refine WL.op rfl (Op1.assign (.int (inR64.2 (by omega)))) ?_
  refine WL.nr ?_
  refine WL.op rfl (Op1.load ty27 (.tmp rfl)) ?_
  refine WL.op rfl (Op1.load ty23 (.tmp rfl)) ?_
  obtain ⟨beside, hv1, hm⟩ := bind_some hm
  refine WL.op rfl (Op1.call Try.call52 (target_beside_spec _ _ _ _ _ hv1) ⟨(.tmp rfl), (.tmp rfl), (.int (inR64.2 (by omega))), trivial⟩) ?_
  refine WL.op rfl (Op1.extract0 (.tmp rfl)) ?_
  refine WL.op rfl (Op1.extract1 (.tmp rfl)) ?_
  refine WL.opU (OpR.storeB (b := b) 4 Try.sizeOf66 (Cellable.is ttarget_spot beside.1) rfl (.tmp rfl) (.tmp rfl)) (fun _ => ?_)
  refine WL.gv rfl rfl ?_
  refine WL.ns ?_
  cases hm
  exact W.retQ2 () rfl rfl (ResAt.cell 4 Try.isAgg66 Try.sizeOf66 rfl (.tmp rfl)) (ResAt.tmp (.tmp rfl)) trivial

theorem target_leads_4_spec (n : Nat) (u : api_Unit) (id : api_Id) (r : target_spot × Int) (hm : M.target_leads_4 n u id = some r) : FSpec Try.prog 53 [(tapi_Unit.is u), (tapi_Id.is id)] (Asn.tuple2 (ttarget_spot.is r.1) ((tI .i64).is r.2)) := by
  unfold M.target_leads_4 at hm
  refine FSpec.of Try.func53 rfl rfl rfl (fun g0 => ?_)
  refine W.sr ?_
  refine WL.op rfl (Op1.box (.tmp rfl)) ?_
  refine WL.op rfl (Op1.box (.tmp rfl)) ?_
  refine WL.opR rfl (OpR.alloc 4 ze66) (fun b => ?_)
  refine WL.op rfl (Op1.assign (.int (inR64.2 (by omega)))) ?_
  refine WL.nr ?_
  refine WL.op rfl (Op1.load ty27 (.tmp rfl)) ?_
  refine WL.op rfl (Op1.load ty23 (.tmp rfl)) ?_
  obtain ⟨beside, hv1, hm⟩ := bind_some hm
  refine WL.op rfl (Op1.call Try.call52 (target_beside_spec _ _ _ _ _ hv1) ⟨(.tmp rfl), (.tmp rfl), (.int (inR64.2 (by omega))), trivial⟩) ?_
  refine WL.op rfl (Op1.extract0 (.tmp rfl)) ?_
  refine WL.op rfl (Op1.extract1 (.tmp rfl)) ?_
  refine WL.opU (OpR.storeB (b := b) 4 Try.sizeOf66 (Cellable.is ttarget_spot beside.1) rfl (.tmp rfl) (.tmp rfl)) (fun _ => ?_)
  refine WL.gv rfl rfl ?_
  refine WL.ns ?_
  cases hm
  exact W.retQ2 () rfl rfl (ResAt.cell 4 Try.isAgg66 Try.sizeOf66 rfl (.tmp rfl)) (ResAt.tmp (.tmp rfl)) trivial

theorem target_leads_spec (n : Nat)  (r : (List (api_Unit → api_Id → Option (target_spot × Int)))) (hm : M.target_leads n  = some r) : FSpec Try.prog 32 [] ((tA 4 (tFun Try.prog (fun (f : api_Unit → api_Id → Option (target_spot × Int)) => (fun s : api_Unit × api_Id × (target_spot × Int) => f s.1 s.2.1 = some s.2.2)) (fun s : api_Unit × api_Id × (target_spot × Int) => [tapi_Unit.is s.1, tapi_Id.is s.2.1]) (fun s : api_Unit × api_Id × (target_spot × Int) => (Asn.tuple2 (ttarget_spot.is s.2.2.1) ((tI .i64).is s.2.2.2))))).is r) := by
  unfold M.target_leads at hm
  refine FSpec.of Try.func32 rfl rfl rfl (fun g0 => ?_)
  refine W.sr ?_
  refine WL.opR rfl (OpR.alloc 0 ze69) (fun b => ?_)
  refine WL.nr ?_
  refine WL.op rfl (Op1.buildA (ys := [(0, (fun s0 s1 => M.target_leads_1 n s0 s1)), (1, (fun s0 s1 => M.target_leads_2 n s0 s1)), (2, (fun s0 s1 => M.target_leads_3 n s0 s1)), (3, (fun s0 s1 => M.target_leads_4 n s0 s1))]) (z := (fun _ _ => none : api_Unit → api_Id → Option (target_spot × Int))) (xs := [(fun s0 s1 => M.target_leads_1 n s0 s1), (fun s0 s1 => M.target_leads_2 n s0 s1), (fun s0 s1 => M.target_leads_3 n s0 s1), (fun s0 s1 => M.target_leads_4 n s0 s1)]) Try.underlying69 Try.sizeOf68 ze69 ⟨rfl, (Opd.tFun (Opd.fn Try.call46 (fun s hs => target_leads_1_spec _ _ _ _ hs))), rfl, (Opd.tFun (Opd.fn Try.call49 (fun s hs => target_leads_2_spec _ _ _ _ hs))), rfl, (Opd.tFun (Opd.fn Try.call51 (fun s hs => target_leads_3_spec _ _ _ _ hs))), rfl, (Opd.tFun (Opd.fn Try.call53 (fun s hs => target_leads_4_spec _ _ _ _ hs))), trivial⟩ (by simp) rfl) ?_
  refine WL.opU (OpR.storeB (b := b) 0 Try.sizeOf69 (Cellable.is (tA 4 (tFun Try.prog (fun (f : api_Unit → api_Id → Option (target_spot × Int)) => (fun s : api_Unit × api_Id × (target_spot × Int) => f s.1 s.2.1 = some s.2.2)) (fun s : api_Unit × api_Id × (target_spot × Int) => [tapi_Unit.is s.1, tapi_Id.is s.2.1]) (fun s : api_Unit × api_Id × (target_spot × Int) => (Asn.tuple2 (ttarget_spot.is s.2.2.1) ((tI .i64).is s.2.2.2))))) [(fun s0 s1 => M.target_leads_1 n s0 s1), (fun s0 s1 => M.target_leads_2 n s0 s1), (fun s0 s1 => M.target_leads_3 n s0 s1), (fun s0 s1 => M.target_leads_4 n s0 s1)]) rfl (.tmp rfl) (.tmp rfl)) (fun _ => ?_)
  refine WL.ns ?_
  cases hm
  exact W.retQ1 () rfl (ResAt.cell 0 Try.isAgg69 Try.sizeOf69 rfl (.tmp rfl)) trivial

theorem target_InsertionPoint_spec (n : Nat) (u : api_Unit) (p : List api_Step) (where0_ : Int) (r : api_Id × Int × Int) (hm : M.target_InsertionPoint n u p where0_ = some r) : FSpec Try.prog 11 [(tapi_Unit.is u), ((tL tapi_Step).is p), ((tI .i64).is where0_)] (Asn.tuple3 (tapi_Id.is r.1) ((tI .i64).is r.2.1) ((tI .i64).is r.2.2)) := by
  unfold M.target_InsertionPoint at hm
  refine FSpec.of Try.func11 rfl rfl rfl (fun g0 => ?_)
  refine W.sr ?_
  refine WL.op rfl (Op1.box (.tmp rfl)) ?_
  refine WL.opR rfl (OpR.alloc 6 ze23) (fun b => ?_)
  refine WL.op rfl (Op1.assign (.int (inR64.2 (by omega)))) ?_
  refine WL.op rfl (Op1.assign (.int (inR64.2 (by omega)))) ?_
  refine WL.ns ?_
  refine W.seq ?_
  refine W.sr ?_
  refine WL.mv rfl rfl ?_
  obtain ⟨iswher, hv1, hm⟩ := bind_some hm
  refine WL.op rfl (Op1.call Try.call31 (target_isWhere_spec _ _ hv1) ⟨(.tmp rfl), trivial⟩) ?_
  refine WL.op rfl (Op1.notB (.tmp rfl)) ?_
  refine WL.ns ?_
  refine W.cond (.tmp rfl) (fun hc2 => ?_) (fun hc2 => ?_)
  · have hp3 := not_pos hc2
    rw [if_pos hp3] at hm
    refine W.sr ?_
    refine WL.op rfl (Op1.build (s := tapi_Id) (x := (⟨(0 : Int), (0 : Int), (0 : Int)⟩ : api_Id)) zapi_Id_f rfl Try.underlying23 (zapi_Id_sz _ Try.underlying23) ze23 rfl) ?_
    refine WL.opU (OpR.storeB (b := b) 6 Try.sizeOf23 (Cellable.is tapi_Id (⟨(0 : Int), (0 : Int), (0 : Int)⟩ : api_Id)) rfl (.tmp rfl) (.tmp rfl)) (fun _ => ?_)
    refine WL.op rfl (Op1.assign (.int (inR64.2 (by omega)))) ?_
    refine WL.op rfl (Op1.assign (.int (inR64.2 (by omega)))) ?_
    refine WL.ns ?_
    cases hm
    exact W.retQ3 () rfl rfl (ResAt.cell 6 Try.isAgg23 Try.sizeOf23 rfl (.tmp rfl)) (ResAt.tmp (.tmp rfl)) (ResAt.tmp (.tmp rfl)) trivial
  · have hp3 := not_neg hc2
    rw [if_neg hp3] at hm
    refine W.skip ?_
    refine WN.seq ?_
    refine W.sr ?_
    refine WL.op rfl (Op1.load ty27 (.tmp rfl)) ?_
    refine WL.mv rfl rfl ?_
    obtain ⟨findon, hv4, hm⟩ := bind_some hm
    refine WL.op rfl (Op1.call Try.call26 (address_FindOne_spec _ _ _ _ hv4) ⟨(.tmp rfl), (.tmp rfl), trivial⟩) ?_
    refine WL.mv rfl rfl ?_
    refine WL.op rfl (Op1.extract0 (.tmp rfl)) ?_
    refine WL.op rfl (Op1.extract1 (.tmp rfl)) ?_
    refine WL.opR rfl (OpR.alloc 9 ze23) (fun b1 => ?_)
    refine WL.opU (OpR.storeB (b := b1) 9 Try.sizeOf23 (Cellable.is tapi_Id findon.1) rfl (.tmp rfl) (.tmp rfl)) (fun _ => ?_)
    refine WL.sealed (t := tapi_Id) (u := findon.1) 9 9 rfl rfl ?_
    refine WL.gv rfl rfl ?_
    refine WL.ns ?_
    refine W.seq ?_
    refine W.sr ?_
    refine WL.mv rfl rfl ?_
    refine WL.op rfl (Op1.neI (.tmp rfl) (.int (inR64.2 (by omega)))) ?_
    refine WL.ns ?_
    refine W.cond (.tmp rfl) (fun hc5 => ?_) (fun hc5 => ?_)
    · have hp6 := of_decide_eq_true hc5
      rw [if_pos hp6] at hm
      refine W.sr ?_
      refine WL.op rfl (Op1.build (s := tapi_Id) (x := (⟨(0 : Int), (0 : Int), (0 : Int)⟩ : api_Id)) zapi_Id_f rfl Try.underlying23 (zapi_Id_sz _ Try.underlying23) ze23 rfl) ?_
      refine WL.mv rfl rfl ?_
      refine WL.opU (OpR.storeB (b := b) 6 Try.sizeOf23 (Cellable.is tapi_Id (⟨(0 : Int), (0 : Int), (0 : Int)⟩ : api_Id)) rfl (.tmp rfl) (.tmp rfl)) (fun _ => ?_)
      refine WL.op rfl (Op1.assign (.int (inR64.2 (by omega)))) ?_
      refine WL.gv rfl rfl ?_
      refine WL.ns ?_
      cases hm
      exact W.retQ3 () rfl rfl (ResAt.cell 6 Try.isAgg23 Try.sizeOf23 rfl (.tmp rfl)) (ResAt.tmp (.tmp rfl)) (ResAt.tmp (.tmp rfl)) trivial
    · have hp6 := of_decide_eq_false hc5
      rw [if_neg hp6] at hm
      refine W.skip ?_
      refine WN.seq ?_
      refine W.seq ?_
      obtain ⟨leads, hv7, hm⟩ := bind_some hm
      obtain ⟨v, hv8, hm⟩ := bind_some hm
      obtain ⟨v1, hv9, hm⟩ := bind_some hm
      refine W.weakR (res' := [(6, (Bx 3 true 23 (tapi_Id.is zapi_Id) b))]) ⟨rfl, rfl, trivial⟩ ?_
      refine W.drawM [.c ((tA 4 (tFun Try.prog (fun (f : api_Unit → api_Id → Option (target_spot × Int)) => (fun s : api_Unit × api_Id × (target_spot × Int) => f s.1 s.2.1 = some s.2.2)) (fun s : api_Unit × api_Id × (target_spot × Int) => [tapi_Unit.is s.1, tapi_Id.is s.2.1]) (fun s : api_Unit × api_Id × (target_spot × Int) => (Asn.tuple2 (ttarget_spot.is s.2.2.1) ((tI .i64).is s.2.2.2))))).is leads), .c ((tI .i64).is where0_), .c ((tFun Try.prog (fun (f : api_Unit → api_Id → Option (target_spot × Int)) => (fun s : api_Unit × api_Id × (target_spot × Int) => f s.1 s.2.1 = some s.2.2)) (fun s : api_Unit × api_Id × (target_spot × Int) => [tapi_Unit.is s.1, tapi_Id.is s.2.1]) (fun s : api_Unit × api_Id × (target_spot × Int) => (Asn.tuple2 (ttarget_spot.is s.2.2.1) ((tI .i64).is s.2.2.2)))).is v), .c (tapi_Unit.is u), .c (tapi_Id.is findon.1), .c (Asn.tuple2 (ttarget_spot.is v1.1) ((tI .i64).is v1.2)), .c (Asn.tuple2 (ttarget_spot.is v1.1) ((tI .i64).is v1.2)), .c (ttarget_spot.is v1.1), .c ((tI .i64).is v1.2), .f (fun cv => (Bp (bk (cv 0)) 0)), .c Asn.any, .c ((tI .i64).is v1.2)] [([], []), ([], [2]), ([0, 1], []), ([], [3]), ([], [9]), ([2, 3, 4], []), ([5], []), ([6], []), ([6], []), ([], []), ([7, 9], []), ([8], [])] [9, 10] [[], [], [], [], [], [], [], [], [], [true], [], []] (fun m cv => match m with | 0 => [(6, (Bx 3 true 23 (tapi_Id.is zapi_Id) b))] | 1 => [(11, (Bx 4 true 66 (ttarget_spot.is ztarget_spot) (bk (cv 0)))), (6, (Bx 3 true 23 (tapi_Id.is zapi_Id) b))] | _ => [(11, (Bx 4 true 66 (ttarget_spot.is v1.1) (bk (cv 0)))), (6, (Bx 3 true 23 (tapi_Id.is zapi_Id) b))]) (fun _ => none) Try.mixed rfl rfl rfl rfl rfl ⟨fun _ _ _ _ => rfl, ⟨fun _ _ _ _ => rfl, ⟨fun _ _ _ _ => rfl, ⟨fun _ _ _ _ => rfl, ⟨fun _ _ _ _ => rfl, ⟨fun _ _ _ _ => rfl, ⟨fun _ _ _ _ => rfl, ⟨fun _ _ _ _ => rfl, ⟨fun _ _ _ _ => rfl, ⟨fun m hm c t => by simp only [DA.at, upd_dep (r := [true]) (j := 0) rfl hm], ⟨fun _ _ _ _ => rfl, ⟨fun _ _ _ _ => rfl, trivial⟩⟩⟩⟩⟩⟩⟩⟩⟩⟩⟩⟩ rfl ⟨.inr ⟨fun cv => [], (fun _ _ _ _ => trivial), fun cv => Op1.call Try.call32 (target_leads_spec _ _ hv7) trivial⟩, ⟨.inr ⟨fun cv => [], (fun _ _ _ _ => trivial), fun cv => Op1.move (.tmp rfl)⟩, ⟨.inr ⟨fun cv => [], (fun _ _ _ _ => trivial), fun cv => Op1.indexA hv8 Try.underlying69 ty68 (.tmp rfl) (.tmp rfl)⟩, ⟨.inr ⟨fun cv => [], (fun _ _ _ _ => trivial), fun cv => Op1.load ty27 (.tmp rfl)⟩, ⟨.inr ⟨fun cv => [], (fun _ _ _ _ => trivial), fun cv => Op1.load ty23 (.tmp rfl)⟩, ⟨.inr ⟨fun cv => [], (fun _ _ _ _ => trivial), fun cv => Op1.callFun (ok := (fun (f : api_Unit → api_Id → Option (target_spot × Int)) => (fun s : api_Unit × api_Id × (target_spot × Int) => f s.1 s.2.1 = some s.2.2))) (As := (fun s : api_Unit × api_Id × (target_spot × Int) => [tapi_Unit.is s.1, tapi_Id.is s.2.1])) (A := (fun s : api_Unit × api_Id × (target_spot × Int) => (Asn.tuple2 (ttarget_spot.is s.2.2.1) ((tI .i64).is s.2.2.2)))) (f := v) (s := (u, findon.1, v1)) (.tmp rfl) hv9 ⟨(.tmp rfl), (.tmp rfl), trivial⟩⟩, ⟨.inr ⟨fun cv => [], (fun _ _ _ _ => trivial), fun cv => Op1.move (.tmp rfl)⟩, ⟨.inr ⟨fun cv => [], (fun _ _ _ _ => trivial), fun cv => Op1.extract0 (.tmp rfl)⟩, ⟨.inr ⟨fun cv => [], (fun _ _ _ _ => trivial), fun cv => Op1.extract1 (.tmp rfl)⟩, ⟨.inl rfl, ⟨.inl rfl, ⟨.inr ⟨fun cv => [], (fun _ _ _ _ => trivial), fun cv => Op1.assign (.tmp rfl)⟩, trivial⟩⟩⟩⟩⟩⟩⟩⟩⟩⟩⟩⟩ ⟨⟨_, _, _, [], (fun cv => [(11, (Bx 4 true 66 (ttarget_spot.is ztarget_spot) (bk (cv 0))))]), rfl, rfl, rfl, rfl, fun _ => rfl, fun _ _ => rfl, fun cv => OpR.viaB (OpR.alloc 11 ze66)⟩, ⟨⟨_, _, _, [11], (fun cv => [(11, (Bx 4 true 66 (ttarget_spot.is v1.1) (bk (cv 0))))]), rfl, rfl, rfl, rfl, fun _ => rfl, fun _ _ => rfl, fun cv => OpR.viaU (OpR.storeB (b := (bk (cv 0))) 11 Try.sizeOf66 (Cellable.is ttarget_spot v1.1) rfl (.tmp rfl) (.tmp rfl))⟩, trivial⟩⟩ (fun cv => ?_)
      refine WN.seq ?_
      refine W.seq ?_
      refine W.sr ?_
      refine WL.mv rfl rfl ?_
      refine WL.op rfl (Op1.neI (.tmp rfl) (.int (inR64.2 (by omega)))) ?_
      refine WL.ns ?_
      refine W.cond (.tmp rfl) (fun hc10 => ?_) (fun hc10 => ?_)
      · have hp11 := of_decide_eq_true hc10
        rw [if_pos hp11] at hm
        refine W.sr ?_
        refine WL.op rfl (Op1.build (s := tapi_Id) (x := (⟨(0 : Int), (0 : Int), (0 : Int)⟩ : api_Id)) zapi_Id_f rfl Try.underlying23 (zapi_Id_sz _ Try.underlying23) ze23 rfl) ?_
        refine WL.mv rfl rfl ?_
        refine WL.opU (OpR.storeB (b := b) 6 Try.sizeOf23 (Cellable.is tapi_Id (⟨(0 : Int), (0 : Int), (0 : Int)⟩ : api_Id)) rfl (.tmp rfl) (.tmp rfl)) (fun _ => ?_)
        refine WL.op rfl (Op1.assign (.int (inR64.2 (by omega)))) ?_
        refine WL.gv rfl rfl ?_
        refine WL.ns ?_
        cases hm
        exact W.retQ3 () rfl rfl (ResAt.cell 6 Try.isAgg23 Try.sizeOf23 rfl (.tmp rfl)) (ResAt.tmp (.tmp rfl)) (ResAt.tmp (.tmp rfl)) trivial
      · have hp11 := of_decide_eq_false hc10
        rw [if_neg hp11] at hm
        refine W.skip ?_
        refine WN.seq ?_
        refine W.seq ?_
        refine W.weakR (res' := [(6, (Bx 3 true 23 (tapi_Id.is zapi_Id) b)), (11, (Bx 4 true 66 (ttarget_spot.is v1.1) (bk (cv 0))))]) ⟨rfl, rfl, ⟨rfl, rfl, trivial⟩⟩ ?_
        refine W.drawM [.c (Bp (bk (cv 0)) 0), .c (tapi_Id.is v1.1.parent_), .c (Bp (bk (cv 0)) 3), .c ((tI .i64).is v1.1.at_), .c Asn.any, .c ((tI .i64).is v1.1.at_), .c ((tI .i64).is (0 : Int))] [([], [11]), ([0], []), ([], [11]), ([2], []), ([1], [6]), ([3], []), ([], [])] [4] [[], [], [], [], [], [], []] (fun m cv1 => match m with | 0 => [(6, (Bx 3 true 23 (tapi_Id.is zapi_Id) b)), (11, (Bx 4 true 66 (ttarget_spot.is v1.1) (bk (cv 0))))] | _ => [(6, (Bx 3 true 23 (tapi_Id.is v1.1.parent_) b)), (11, (Bx 4 true 66 (ttarget_spot.is v1.1) (bk (cv 0))))]) (fun _ => none) Try.mixed rfl rfl rfl rfl rfl ⟨fun _ _ _ _ => rfl, ⟨fun _ _ _ _ => rfl, ⟨fun _ _ _ _ => rfl, ⟨fun _ _ _ _ => rfl, ⟨fun _ _ _ _ => rfl, ⟨fun _ _ _ _ => rfl, ⟨fun _ _ _ _ => rfl, trivial⟩⟩⟩⟩⟩⟩⟩ rfl ⟨.inr ⟨fun cv1 => [], (fun _ _ _ _ => trivial), fun cv1 => Op1.fieldAddrB (o := 0) Try.underlying66 rfl (fun w => ⟨2, Try.sizeOf23 w⟩) (.tmp rfl) rfl⟩, ⟨.inr ⟨fun cv1 => [(11, (Bx 4 true 66 (ttarget_spot.is v1.1) (bk (cv 0))))], (AllUpTo.at ⟨(fun _ _ => ⟨rfl, rfl, trivial⟩), (fun hw => absurd hw (by decide))⟩), fun cv1 => Op1.loadBF 11 rfl ty23 ftarget_spot_0 rfl (.tmp rfl)⟩, ⟨.inr ⟨fun cv1 => [], (fun _ _ _ _ => trivial), fun cv1 => Op1.fieldAddrB (o := 0) Try.underlying66 rfl (fun w => ⟨0, Try.sizeOf3 w⟩) (.tmp rfl) rfl⟩, ⟨.inr ⟨fun cv1 => [(11, (Bx 4 true 66 (ttarget_spot.is v1.1) (bk (cv 0))))], (AllUpTo.at ⟨(fun _ _ => ⟨rfl, rfl, trivial⟩), (fun _ _ => ⟨rfl, rfl, trivial⟩)⟩), fun cv1 => Op1.loadBF 11 rfl ty3 ftarget_spot_1 rfl (.tmp rfl)⟩, ⟨.inl rfl, ⟨.inr ⟨fun cv1 => [], (fun _ _ _ _ => trivial), fun cv1 => Op1.assign (.tmp rfl)⟩, ⟨.inr ⟨fun cv1 => [], (fun _ _ _ _ => trivial), fun cv1 => Op1.assign (.int (inR64.2 (by omega)))⟩, trivial⟩⟩⟩⟩⟩⟩⟩ ⟨⟨_, _, _, [6], (fun cv1 => [(6, (Bx 3 true 23 (tapi_Id.is v1.1.parent_) b))]), rfl, rfl, rfl, rfl, fun _ => rfl, fun _ _ => rfl, fun cv1 => OpR.viaU (OpR.storeB (b := b) 6 Try.sizeOf23 (Cellable.is tapi_Id v1.1.parent_) rfl (.tmp rfl) (.tmp rfl))⟩, trivial⟩ (fun cv1 => ?_)
        refine WN.seq ?_
        cases hm
        exact W.retQ3 () rfl rfl (ResAt.cell 6 Try.isAgg23 Try.sizeOf23 rfl (.tmp rfl)) (ResAt.tmp (.tmp rfl)) (ResAt.tmp (.tmp rfl)) trivial

theorem law21_awake_spec (n : Nat)  (r : Bool) (hm : M.law21_awake n  = some r) : FSpec Try.prog 8 [] (tB.is r) := by
  unfold M.law21_awake at hm
  refine FSpec.of Try.func8 rfl rfl rfl (fun g0 => ?_)
  refine W.sr ?_
  refine WL.op rfl (Op1.assign .bool) ?_
  refine WL.nr ?_
  refine WL.op rfl (Op1.build (s := tapi_Id) (x := (⟨(1 : Int), (0 : Int), (1 : Int)⟩ : api_Id)) zapi_Id_f rfl Try.underlying23 (zapi_Id_sz _ Try.underlying23) ze23 ⟨_, (tI .i64), (1 : Int), _, _, rfl, Try.sizeOf3, (.int (inR64.2 (by omega))), sapi_Id_0, ⟨_, (tI .i64), (1 : Int), _, _, rfl, Try.sizeOf3, (.int (inR64.2 (by omega))), sapi_Id_2, rfl⟩⟩) ?_
  refine WL.op rfl (Op1.build (s := tapi_Unit) (x := (⟨(⟨(1 : Int), (0 : Int), (1 : Int)⟩ : api_Id), (2 : Int), ([49] : Str), ([] : List api_Word), ([] : List api_Word), ([] : List api_Unit)⟩ : api_Unit)) zapi_Unit_f rfl Try.underlying27 (zapi_Unit_sz _ Try.underlying27) ze27 ⟨_, tapi_Id, (⟨(1 : Int), (0 : Int), (1 : Int)⟩ : api_Id), _, _, rfl, Try.sizeOf23, (.tmp rfl), sapi_Unit_0, ⟨_, (tI .i64), (2 : Int), _, _, rfl, Try.sizeOf3, (.int (inR64.2 (by omega))), sapi_Unit_1, ⟨_, tS, ([49] : Str), _, _, rfl, Try.sizeOf9, (.str rfl (by decide)), sapi_Unit_2, rfl⟩⟩⟩) ?_
  refine WL.op rfl (Op1.build (s := tapi_Id) (x := (⟨(1 : Int), (0 : Int), (2 : Int)⟩ : api_Id)) zapi_Id_f rfl Try.underlying23 (zapi_Id_sz _ Try.underlying23) ze23 ⟨_, (tI .i64), (1 : Int), _, _, rfl, Try.sizeOf3, (.int (inR64.2 (by omega))), sapi_Id_0, ⟨_, (tI .i64), (2 : Int), _, _, rfl, Try.sizeOf3, (.int (inR64.2 (by omega))), sapi_Id_2, rfl⟩⟩) ?_
  refine WL.op rfl (Op1.build (s := tapi_Unit) (x := (⟨(⟨(1 : Int), (0 : Int), (2 : Int)⟩ : api_Id), (2 : Int), ([50] : Str), ([] : List api_Word), ([] : List api_Word), ([] : List api_Unit)⟩ : api_Unit)) zapi_Unit_f rfl Try.underlying27 (zapi_Unit_sz _ Try.underlying27) ze27 ⟨_, tapi_Id, (⟨(1 : Int), (0 : Int), (2 : Int)⟩ : api_Id), _, _, rfl, Try.sizeOf23, (.tmp rfl), sapi_Unit_0, ⟨_, (tI .i64), (2 : Int), _, _, rfl, Try.sizeOf3, (.int (inR64.2 (by omega))), sapi_Unit_1, ⟨_, tS, ([50] : Str), _, _, rfl, Try.sizeOf9, (.str rfl (by decide)), sapi_Unit_2, rfl⟩⟩⟩) ?_
  refine WL.op rfl (Op1.buildSlice (n := 2) (ys := [(0, (⟨(⟨(1 : Int), (0 : Int), (1 : Int)⟩ : api_Id), (2 : Int), ([49] : Str), ([] : List api_Word), ([] : List api_Word), ([] : List api_Unit)⟩ : api_Unit)), (1, (⟨(⟨(1 : Int), (0 : Int), (2 : Int)⟩ : api_Id), (2 : Int), ([50] : Str), ([] : List api_Word), ([] : List api_Word), ([] : List api_Unit)⟩ : api_Unit))]) (z := zapi_Unit) (xs := [(⟨(⟨(1 : Int), (0 : Int), (1 : Int)⟩ : api_Id), (2 : Int), ([49] : Str), ([] : List api_Word), ([] : List api_Word), ([] : List api_Unit)⟩ : api_Unit), (⟨(⟨(1 : Int), (0 : Int), (2 : Int)⟩ : api_Id), (2 : Int), ([50] : Str), ([] : List api_Word), ([] : List api_Word), ([] : List api_Unit)⟩ : api_Unit)]) Try.underlying25 el27 ze27 ⟨rfl, (.tmp rfl), rfl, (.tmp rfl), trivial⟩ (by simp) (by decide) rfl) ?_
  refine WL.op rfl (Op1.build (s := tapi_Unit) (x := (⟨zapi_Id, (0 : Int), ([] : Str), ([] : List api_Word), ([] : List api_Word), [(⟨(⟨(1 : Int), (0 : Int), (1 : Int)⟩ : api_Id), (2 : Int), ([49] : Str), ([] : List api_Word), ([] : List api_Word), ([] : List api_Unit)⟩ : api_Unit), (⟨(⟨(1 : Int), (0 : Int), (2 : Int)⟩ : api_Id), (2 : Int), ([50] : Str), ([] : List api_Word), ([] : List api_Word), ([] : List api_Unit)⟩ : api_Unit)]⟩ : api_Unit)) zapi_Unit_f rfl Try.underlying27 (zapi_Unit_sz _ Try.underlying27) ze27 ⟨_, (tL tapi_Unit), ([(⟨(⟨(1 : Int), (0 : Int), (1 : Int)⟩ : api_Id), (2 : Int), ([49] : Str), ([] : List api_Word), ([] : List api_Word), ([] : List api_Unit)⟩ : api_Unit), (⟨(⟨(1 : Int), (0 : Int), (2 : Int)⟩ : api_Id), (2 : Int), ([50] : Str), ([] : List api_Word), ([] : List api_Word), ([] : List api_Unit)⟩ : api_Unit)]), _, _, rfl, Try.sizeOf25, (.tmp rfl), sapi_Unit_5, rfl⟩) ?_
  refine WL.opR rfl (OpR.alloc 1 ze27) (fun b => ?_)
  refine WL.opU (OpR.storeB (b := b) 1 Try.sizeOf27 (Cellable.is tapi_Unit (⟨zapi_Id, (0 : Int), ([] : Str), ([] : List api_Word), ([] : List api_Word), [(⟨(⟨(1 : Int), (0 : Int), (1 : Int)⟩ : api_Id), (2 : Int), ([49] : Str), ([] : List api_Word), ([] : List api_Word), ([] : List api_Unit)⟩ : api_Unit), (⟨(⟨(1 : Int), (0 : Int), (2 : Int)⟩ : api_Id), (2 : Int), ([50] : Str), ([] : List api_Word), ([] : List api_Word), ([] : List api_Unit)⟩ : api_Unit)]⟩ : api_Unit)) rfl (.tmp rfl) (.tmp rfl)) (fun _ => ?_)
  refine WL.sealed (t := tapi_Unit) (u := (⟨zapi_Id, (0 : Int), ([] : Str), ([] : List api_Word), ([] : List api_Word), [(⟨(⟨(1 : Int), (0 : Int), (1 : Int)⟩ : api_Id), (2 : Int), ([49] : Str), ([] : List api_Word), ([] : List api_Word), ([] : List api_Unit)⟩ : api_Unit), (⟨(⟨(1 : Int), (0 : Int), (2 : Int)⟩ : api_Id), (2 : Int), ([50] : Str), ([] : List api_Word), ([] : List api_Word), ([] : List api_Unit)⟩ : api_Unit)]⟩ : api_Unit)) 1 1 rfl rfl ?_
  refine WL.nr ?_
  refine WL.op rfl (Op1.load ty27 (.tmp rfl)) ?_
  refine WL.op rfl (Op1.build (s := tapi_Step) (x := (⟨(2 : Int), ([49] : Str)⟩ : api_Step)) zapi_Step_f rfl Try.underlying63 (zapi_Step_sz _ Try.underlying63) ze63 ⟨_, (tI .i64), (2 : Int), _, _, rfl, Try.sizeOf3, (.int (inR64.2 (by omega))), sapi_Step_0, ⟨_, tS, ([49] : Str), _, _, rfl, Try.sizeOf9, (.str rfl (by decide)), sapi_Step_1, rfl⟩⟩) ?_
  refine WL.op rfl (Op1.buildSlice (n := 1) (ys := [(0, (⟨(2 : Int), ([49] : Str)⟩ : api_Step))]) (z := zapi_Step) (xs := [(⟨(2 : Int), ([49] : Str)⟩ : api_Step)]) Try.underlying28 el63 ze63 ⟨rfl, (.tmp rfl), trivial⟩ (by simp) (by decide) rfl) ?_
  obtain ⟨insert, hv1, hm⟩ := bind_some hm
  refine WL.op rfl (Op1.call Try.call11 (target_InsertionPoint_spec _ _ _ _ _ hv1) ⟨(.tmp rfl), (.tmp rfl), (.int (inR64.2 (by omega))), trivial⟩) ?_
  refine WL.mv rfl rfl ?_
  refine WL.op rfl (Op1.extract30 (.tmp rfl)) ?_
  refine WL.op rfl (Op1.extract31 (.tmp rfl)) ?_
  refine WL.op rfl (Op1.extract32 (.tmp rfl)) ?_
  refine WL.opR rfl (OpR.alloc 2 ze23) (fun b1 => ?_)
  refine WL.opU (OpR.storeB (b := b1) 2 Try.sizeOf23 (Cellable.is tapi_Id insert.1) rfl (.tmp rfl) (.tmp rfl)) (fun _ => ?_)
  refine WL.sealed (t := tapi_Id) (u := insert.1) 2 2 rfl rfl ?_
  refine WL.gv rfl rfl ?_
  refine WL.gv rfl rfl ?_
  refine WL.nr ?_
  refine WL.op rfl (Op1.load ty27 (.tmp rfl)) ?_
  obtain ⟨insert1, hv2, hm⟩ := bind_some hm
  refine WL.op rfl (Op1.call Try.call11 (target_InsertionPoint_spec _ _ _ _ _ hv2) ⟨(.tmp rfl), (.nil (t := tapi_Step)), (.int (inR64.2 (by omega))), trivial⟩) ?_
  refine WL.mv rfl rfl ?_
  refine WL.op rfl (Op1.extract30 (.tmp rfl)) ?_
  refine WL.op rfl (Op1.extract31 (.tmp rfl)) ?_
  refine WL.op rfl (Op1.extract32 (.tmp rfl)) ?_
  refine WL.opR rfl (OpR.alloc 5 ze23) (fun b2 => ?_)
  refine WL.opU (OpR.storeB (b := b2) 5 Try.sizeOf23 (Cellable.is tapi_Id insert1.1) rfl (.tmp rfl) (.tmp rfl)) (fun _ => ?_)
  refine WL.sealed (t := tapi_Id) (u := insert1.1) 5 5 rfl rfl ?_
  refine WL.gv rfl rfl ?_
  refine WL.gv rfl rfl ?_
  refine WL.nr ?_
  refine WL.mv rfl rfl ?_
  refine WL.op rfl (Op1.eqI (.tmp rfl) (.int (inR64.2 (by omega)))) ?_
  refine WL.mv rfl rfl ?_
  rcases bcases (decide (insert.2.2 = (0 : Int))) with hb3 | hb3
  · have hp4 := of_decide_eq_true hb3
    rw [if_pos hp4] at hm
    refine WL.run rfl rfl rfl rfl hb3 rfl rfl (Op1.load ty23 (.tmp rfl)) ?_
    refine WL.run rfl rfl rfl rfl hb3 rfl rfl (Op1.build (s := tapi_Id) (x := (⟨(0 : Int), (0 : Int), (0 : Int)⟩ : api_Id)) zapi_Id_f rfl Try.underlying23 (zapi_Id_sz _ Try.underlying23) ze23 rfl) ?_
    refine WL.run rfl rfl rfl rfl hb3 rfl rfl (Op1.eqSt (D := 2) rfl (by decide) eg23 eq23 (.tmp rfl) (.tmp rfl)) ?_
    refine WL.op rfl (Op1.pickT (.tmp rfl) hb3 (.tmp rfl)) ?_
    refine WL.mv rfl rfl ?_
    rcases bcases (decide (insert.1 = (⟨(0 : Int), (0 : Int), (0 : Int)⟩ : api_Id))) with hb5 | hb5
    · have hp6 := of_decide_eq_true hb5
      rw [if_pos hp6] at hm
      refine WL.run rfl rfl rfl rfl hb5 rfl rfl (Op1.move (.tmp rfl)) ?_
      refine WL.run rfl rfl rfl rfl hb5 rfl rfl (Op1.eqI (.tmp rfl) (.int (inR64.2 (by omega)))) ?_
      refine WL.op rfl (Op1.pickT (.tmp rfl) hb5 (.tmp rfl)) ?_
      refine WL.mv rfl rfl ?_
      rcases bcases (decide (insert.2.1 = (1 : Int))) with hb7 | hb7
      · have hp8 := of_decide_eq_true hb7
        rw [if_pos hp8] at hm
        refine WL.run rfl rfl rfl rfl hb7 rfl rfl (Op1.move (.tmp rfl)) ?_
        refine WL.run rfl rfl rfl rfl hb7 rfl rfl (Op1.eqI (.tmp rfl) (.int (inR64.2 (by omega)))) ?_
        refine WL.op rfl (Op1.pickT (.tmp rfl) hb7 (.tmp rfl)) ?_
        refine WL.mv rfl rfl ?_
        rcases bcases (decide (insert1.2.2 = (0 : Int))) with hb9 | hb9
        · have hp10 := of_decide_eq_true hb9
          rw [if_pos hp10] at hm
          refine WL.run rfl rfl rfl rfl hb9 rfl rfl (Op1.load ty23 (.tmp rfl)) ?_
          refine WL.run rfl rfl rfl rfl hb9 rfl rfl (Op1.build (s := tapi_Id) (x := (⟨(0 : Int), (0 : Int), (0 : Int)⟩ : api_Id)) zapi_Id_f rfl Try.underlying23 (zapi_Id_sz _ Try.underlying23) ze23 rfl) ?_
          refine WL.run rfl rfl rfl rfl hb9 rfl rfl (Op1.eqSt (D := 2) rfl (by decide) eg23 eq23 (.tmp rfl) (.tmp rfl)) ?_
          refine WL.op rfl (Op1.pickT (.tmp rfl) hb9 (.tmp rfl)) ?_
          refine WL.mv rfl rfl ?_
          rcases bcases (decide (insert1.1 = (⟨(0 : Int), (0 : Int), (0 : Int)⟩ : api_Id))) with hb11 | hb11
          · have hp12 := of_decide_eq_true hb11
            rw [if_pos hp12] at hm
            refine WL.run rfl rfl rfl rfl hb11 rfl rfl (Op1.move (.tmp rfl)) ?_
            refine WL.run rfl rfl rfl rfl hb11 rfl rfl (Op1.eqI (.tmp rfl) (.int (inR64.2 (by omega)))) ?_
            refine WL.op rfl (Op1.pickT (.tmp rfl) hb11 (.tmp rfl)) ?_
            refine WL.gv rfl rfl ?_
            refine WL.ns ?_
            cases hm
            exact W.ret1 () rfl (.tmp rfl) trivial
          · have hp12 := of_decide_eq_false hb11
            rw [if_neg hp12] at hm
            refine WL.pass rfl rfl rfl rfl hb11 rfl rfl ?_
            refine WL.pass rfl rfl rfl rfl hb11 rfl rfl ?_
            refine WL.op rfl (Op1.pickF (.tmp rfl) hb11 .bool) ?_
            refine WL.gv rfl rfl ?_
            refine WL.ns ?_
            cases hm
            exact W.ret1 () rfl (.tmp rfl) trivial
        · have hp10 := of_decide_eq_false hb9
          rw [if_neg hp10] at hm
          refine WL.pass rfl rfl rfl rfl hb9 rfl rfl ?_
          refine WL.pass rfl rfl rfl rfl hb9 rfl rfl ?_
          refine WL.pass rfl rfl rfl rfl hb9 rfl rfl ?_
          refine WL.op rfl (Op1.pickF (.tmp rfl) hb9 .bool) ?_
          refine WL.mv rfl rfl ?_
          refine WL.pass rfl rfl rfl rfl rfl rfl rfl ?_
          refine WL.pass rfl rfl rfl rfl rfl rfl rfl ?_
          refine WL.op rfl (Op1.pickF (.tmp rfl) rfl .bool) ?_
          refine WL.gv rfl rfl ?_
          refine WL.ns ?_
          cases hm
          exact W.ret1 () rfl (.tmp rfl) trivial
      · have hp8 := of_decide_eq_false hb7
        rw [if_neg hp8] at hm
        refine WL.pass rfl rfl rfl rfl hb7 rfl rfl ?_
        refine WL.pass rfl rfl rfl rfl hb7 rfl rfl ?_
        refine WL.op rfl (Op1.pickF (.tmp rfl) hb7 .bool) ?_
        refine WL.mv rfl rfl ?_
        refine WL.pass rfl rfl rfl rfl rfl rfl rfl ?_
        refine WL.pass rfl rfl rfl rfl rfl rfl rfl ?_
        refine WL.pass rfl rfl rfl rfl rfl rfl rfl ?_
        refine WL.op rfl (Op1.pickF (.tmp rfl) rfl .bool) ?_
        refine WL.mv rfl rfl ?_
        refine WL.pass rfl rfl rfl rfl rfl rfl rfl ?_
        refine WL.pass rfl rfl rfl rfl rfl rfl rfl ?_
        refine WL.op rfl (Op1.pickF (.tmp rfl) rfl .bool) ?_
        refine WL.gv rfl rfl ?_
        refine WL.ns ?_
        cases hm
        exact W.ret1 () rfl (.tmp rfl) trivial
    · have hp6 := of_decide_eq_false hb5
      rw [if_neg hp6] at hm
      refine WL.pass rfl rfl rfl rfl hb5 rfl rfl ?_
      refine WL.pass rfl rfl rfl rfl hb5 rfl rfl ?_
      refine WL.op rfl (Op1.pickF (.tmp rfl) hb5 .bool) ?_
      refine WL.mv rfl rfl ?_
      refine WL.pass rfl rfl rfl rfl rfl rfl rfl ?_
      refine WL.pass rfl rfl rfl rfl rfl rfl rfl ?_
      refine WL.op rfl (Op1.pickF (.tmp rfl) rfl .bool) ?_
      refine WL.mv rfl rfl ?_
      refine WL.pass rfl rfl rfl rfl rfl rfl rfl ?_
      refine WL.pass rfl rfl rfl rfl rfl rfl rfl ?_
      refine WL.pass rfl rfl rfl rfl rfl rfl rfl ?_
      refine WL.op rfl (Op1.pickF (.tmp rfl) rfl .bool) ?_
      refine WL.mv rfl rfl ?_
      refine WL.pass rfl rfl rfl rfl rfl rfl rfl ?_
      refine WL.pass rfl rfl rfl rfl rfl rfl rfl ?_
      refine WL.op rfl (Op1.pickF (.tmp rfl) rfl .bool) ?_
      refine WL.gv rfl rfl ?_
      refine WL.ns ?_
      cases hm
      exact W.ret1 () rfl (.tmp rfl) trivial
  · have hp4 := of_decide_eq_false hb3
    rw [if_neg hp4] at hm
    refine WL.pass rfl rfl rfl rfl hb3 rfl rfl ?_
    refine WL.pass rfl rfl rfl rfl hb3 rfl rfl ?_
    refine WL.pass rfl rfl rfl rfl hb3 rfl rfl ?_
    refine WL.op rfl (Op1.pickF (.tmp rfl) hb3 .bool) ?_
    refine WL.mv rfl rfl ?_
    refine WL.pass rfl rfl rfl rfl rfl rfl rfl ?_
    refine WL.pass rfl rfl rfl rfl rfl rfl rfl ?_
    refine WL.op rfl (Op1.pickF (.tmp rfl) rfl .bool) ?_
    refine WL.mv rfl rfl ?_
    refine WL.pass rfl rfl rfl rfl rfl rfl rfl ?_
    refine WL.pass rfl rfl rfl rfl rfl rfl rfl ?_
    refine WL.op rfl (Op1.pickF (.tmp rfl) rfl .bool) ?_
    refine WL.mv rfl rfl ?_
    refine WL.pass rfl rfl rfl rfl rfl rfl rfl ?_
    refine WL.pass rfl rfl rfl rfl rfl rfl rfl ?_
    refine WL.pass rfl rfl rfl rfl rfl rfl rfl ?_
    refine WL.op rfl (Op1.pickF (.tmp rfl) rfl .bool) ?_
    refine WL.mv rfl rfl ?_
    refine WL.pass rfl rfl rfl rfl rfl rfl rfl ?_
    refine WL.pass rfl rfl rfl rfl rfl rfl rfl ?_
    refine WL.op rfl (Op1.pickF (.tmp rfl) rfl .bool) ?_
    refine WL.gv rfl rfl ?_
    refine WL.ns ?_
    cases hm
    exact W.ret1 () rfl (.tmp rfl) trivial

theorem r06_size_spec : ∀ (n : Nat) (u : api_Unit) (deep : Int) (most : Int) (r : Int), M.r06_size n u deep most = some r → FSpec Try.prog 42 [(tapi_Unit.is u), ((tI .i64).is deep), ((tI .i64).is most)] ((tI .i64).is r) := by
  intro n
  induction n with
  | zero => intro u deep most r hm; cases hm
  | succ n ih =>
    intro u deep most r hm
    rw [M.r06_size.eq_2] at hm
    refine FSpec.of Try.func42 rfl rfl rfl (fun g0 => ?_)
    refine W.sr ?_
    refine WL.op rfl (Op1.box (.tmp rfl)) ?_
    refine WL.op rfl (Op1.assign (.int (inR64.2 (by omega)))) ?_
    refine WL.ns ?_
    refine W.seq ?_
    refine W.sr ?_
    refine WL.mv rfl rfl ?_
    refine WL.op rfl (Op1.gtI (.tmp rfl) (.int (inR64.2 (by omega)))) ?_
    refine WL.ns ?_
    refine W.cond (.tmp rfl) (fun hc1 => ?_) (fun hc1 => ?_)
    · have hp2 := of_decide_eq_true hc1
      rw [if_pos hp2] at hm
      refine W.sr ?_
      refine WL.mv rfl rfl ?_
      obtain ⟨v, hv3, hm⟩ := bind_some hm
      refine WL.op rfl (Op1.addC hv3 (.tmp rfl) (.int (inR64.2 (by omega)))) ?_
      refine WL.gv rfl rfl ?_
      refine WL.ns ?_
      cases hm
      exact W.ret1 () rfl (.tmp rfl) trivial
    · have hp2 := of_decide_eq_false hc1
      rw [if_neg hp2] at hm
      refine W.skip ?_
      refine WN.seq ?_
      refine W.sr ?_
      refine WL.op rfl (Op1.assign (.int (inR64.2 (by omega)))) ?_
      refine WL.ns ?_
      refine W.seq ?_
      refine W.sr ?_
      refine WL.op rfl (Op1.assign (.int (inR64.2 (by omega)))) ?_
      refine WL.ns ?_
      refine W.block ?_
      obtain ⟨s4, hs5, hk6⟩ := bind_some hm
      clear hm
      refine W.loop (fun m (s : Int × Int) => M.r06_size_loop1 u deep most (M.r06_size n) m s.1 s.2 = some s4) (fun s => [(7, ((tI .i64).is s.1)), (8, ((tI .i64).is s.2)), (1, ((tI .i64).is deep)), (2, ((tI .i64).is most)), (3, (tapi_Unit.ptr u))]) (fun s => []) _ ((1 : Int), (0 : Int)) hs5 ⟨Ent.q rfl, Ent.q rfl, Ent.q rfl, Ent.q rfl, Ent.q rfl, trivial⟩ trivial ?_
      rintro n7 ⟨n0_, i⟩ hm
      try dsimp only at hm
      change W _ _ _ _ _ _ _ [(7, ((tI .i64).is n0_)), (8, ((tI .i64).is i)), (1, ((tI .i64).is deep)), (2, ((tI .i64).is most)), (3, (tapi_Unit.ptr u))] []
      cases n7 with
      | zero => rw [M.r06_size_loop1.eq_1] at hm; cases hm
      | succ n7 =>
        rw [M.r06_size_loop1.eq_2] at hm
        refine W.seq ?_
        obtain ⟨s8, hs9, hk10⟩ := bind_some hm
        clear hm
        refine W.join (fun s : Bool => s = s8) (fun s => [(22, (tB.is s)), (1, ((tI .i64).is deep)), (2, ((tI .i64).is most)), (3, (tapi_Unit.ptr u)), (7, ((tI .i64).is n0_)), (8, ((tI .i64).is i))]) (fun s => []) ?_ ?_
        · rintro v1 hj22
          try dsimp only at hj22
          subst hj22
          have hm := hk10
          clear hk10
          try dsimp only at hm
          change W _ _ _ _ _ _ _ [(22, (tB.is v1)), (1, ((tI .i64).is deep)), (2, ((tI .i64).is most)), (3, (tapi_Unit.ptr u)), (7, ((tI .i64).is n0_)), (8, ((tI .i64).is i))] []
          refine W.cond (.tmp rfl) (fun hc13 => ?_) (fun hc13 => ?_)
          · have hp14 := hc13
            rw [if_pos hp14] at hm
            refine W.skip ?_
            refine WN.seq ?_
            refine W.seq ?_
            refine W.block ?_
            refine W.region ?_
            refine WL.mv rfl rfl ?_
            refine WL.op rfl (Op1.fieldAddr Try.underlying27 rfl (fun w => ⟨0, Try.sizeOf25 w⟩) fapi_Unit_5 (.tmp rfl)) ?_
            refine WL.op rfl (Op1.load ty25 (.tmp rfl)) ?_
            refine WL.mv rfl rfl ?_
            obtain ⟨v2, hv15, hm⟩ := bind_some hm
            refine WL.op rfl (Op1.idx hv15 Try.underlying25 Try.sizeOf27 (.tmp rfl) (.tmp rfl)) ?_
            refine WL.op rfl (Op1.load ty27 (.tmp rfl)) ?_
            refine WL.mv rfl rfl ?_
            obtain ⟨v3, hv16, hm⟩ := bind_some hm
            refine WL.op rfl (Op1.addC hv16 (.tmp rfl) (.int (inR64.2 (by omega)))) ?_
            refine WL.mv rfl rfl ?_
            refine WL.mv rfl rfl ?_
            obtain ⟨v4, hv17, hm⟩ := bind_some hm
            refine WL.op rfl (Op1.subC hv17 (.tmp rfl) (.tmp rfl)) ?_
            obtain ⟨size, hv18, hm⟩ := bind_some hm
            refine WL.op rfl (Op1.call Try.call42 (ih _ _ _ _ hv18) ⟨(.tmp rfl), (.tmp rfl), (.tmp rfl), trivial⟩) ?_
            obtain ⟨v5, hv19, hm⟩ := bind_some hm
            refine WL.op rfl (Op1.addC hv19 (.tmp rfl) (.tmp rfl)) ?_
            refine WL.gv rfl rfl ?_
            refine WL.nil ?_
            refine WN.block ?_
            refine WN.seq ?_
            refine W.region ?_
            refine WL.mv rfl rfl ?_
            obtain ⟨v6, hv20, hm⟩ := bind_some hm
            refine WL.op rfl (Op1.addC hv20 (.tmp rfl) (.int (inR64.2 (by omega)))) ?_
            refine WL.gv rfl rfl ?_
            refine WL.nil ?_
            exact WN.again n7 (v5, v6) (Nat.lt_succ_self n7) hm ⟨Ent.q rfl, Ent.q rfl, Ent.q rfl, Ent.q rfl, Ent.q rfl, trivial⟩ trivial
          · have hp14 := ne_of_false hc13
            rw [if_neg hp14] at hm
            refine W.exit rfl ?_
            have hr21 := Option.some.inj hm
            clear hm
            subst hr21
            have hm := hk6
            try dsimp only at hm
            refine WN.seq ?_
            refine W.sr ?_
            refine WL.mv rfl rfl ?_
            refine WL.gv rfl rfl ?_
            refine WL.ns ?_
            cases hm
            exact W.ret1 () rfl (.tmp rfl) trivial
        · have hm := hs9
          clear hs9
          refine W.region ?_
          refine WL.mv rfl rfl ?_
          refine WL.op rfl (Op1.fieldAddr Try.underlying27 rfl (fun w => ⟨0, Try.sizeOf25 w⟩) fapi_Unit_5 (.tmp rfl)) ?_
          refine WL.op rfl (Op1.load ty25 (.tmp rfl)) ?_
          refine WL.op rfl (Op1.lenL Try.underlying25 (.tmp rfl)) ?_
          refine WL.op rfl (Op1.ltI (.tmp rfl) (.tmp rfl)) ?_
          refine WL.mv rfl rfl ?_
          rcases bcases (decide (i < (u.Kids.length : Int))) with hb11 | hb11
          · have hp12 := of_decide_eq_true hb11
            rw [if_pos hp12] at hm
            refine WL.run rfl rfl rfl rfl hb11 rfl rfl (Op1.move (.tmp rfl)) ?_
            refine WL.run rfl rfl rfl rfl hb11 rfl rfl (Op1.move (.tmp rfl)) ?_
            refine WL.run rfl rfl rfl rfl hb11 rfl rfl (Op1.leI (.tmp rfl) (.tmp rfl)) ?_
            refine WL.op rfl (Op1.pickT (.tmp rfl) hb11 (.tmp rfl)) ?_
            refine WL.nil ?_
            exact WN.meet (decide (n0_ ≤ most)) (Option.some.inj hm) ⟨Ent.q rfl, Ent.q rfl, Ent.q rfl, Ent.q rfl, Ent.q rfl, Ent.q rfl, trivial⟩ trivial
          · have hp12 := of_decide_eq_false hb11
            rw [if_neg hp12] at hm
            refine WL.pass rfl rfl rfl rfl hb11 rfl rfl ?_
            refine WL.pass rfl rfl rfl rfl hb11 rfl rfl ?_
            refine WL.pass rfl rfl rfl rfl hb11 rfl rfl ?_
            refine WL.op rfl (Op1.pickF (.tmp rfl) hb11 .bool) ?_
            refine WL.nil ?_
            exact WN.meet false (Option.some.inj hm) ⟨Ent.q rfl, Ent.q rfl, Ent.q rfl, Ent.q rfl, Ent.q rfl, Ent.q rfl, trivial⟩ trivial

theorem r06_short_spec (n : Nat) (l : List api_Word) (r : Bool) (hm : M.r06_short n l = some r) : FSpec Try.prog 70 [((tL tapi_Word).is l)] (tB.is r) := by
  unfold M.r06_short at hm
  refine FSpec.of Try.func70 rfl rfl rfl (fun g0 => ?_)
  refine W.sr ?_
  refine WL.op rfl (Op1.assign .bool) ?_
  refine WL.ns ?_
  refine W.seq ?_
  refine W.sr ?_
  refine WL.op rfl (Op1.assign (.int (inR64.2 (by omega)))) ?_
  refine WL.ns ?_
  refine W.block ?_
  obtain ⟨s1, hs2, hk3⟩ := bind_some hm
  clear hm
  refine W.loop (fun m (s : Int) => M.r06_short_loop1 l m s = some s1) (fun s => [(3, ((tI .i64).is s)), (0, ((tL tapi_Word).is l))]) (fun s => []) _ (0 : Int) hs2 ⟨Ent.q rfl, Ent.q rfl, trivial⟩ trivial ?_
  rintro n4 i hm
  try dsimp only at hm
  change W _ _ _ _ _ _ _ [(3, ((tI .i64).is i)), (0, ((tL tapi_Word).is l))] []
  cases n4 with
  | zero => rw [M.r06_short_loop1.eq_1] at hm; cases hm
  | succ n4 =>
    rw [M.r06_short_loop1.eq_2] at hm
    refine W.seq ?_
    refine W.sr ?_
    refine WL.mv rfl rfl ?_
    refine WL.mv rfl rfl ?_
    refine WL.op rfl (Op1.lenL Try.underlying24 (.tmp rfl)) ?_
    refine WL.op rfl (Op1.ltI (.tmp rfl) (.tmp rfl)) ?_
    refine WL.ns ?_
    refine W.cond (.tmp rfl) (fun hc5 => ?_) (fun hc5 => ?_)
    · have hp6 := of_decide_eq_true hc5
      rw [if_pos hp6] at hm
      refine W.skip ?_
      refine WN.seq ?_
      refine W.seq ?_
      refine W.block ?_
      refine W.sr ?_
      refine WL.mv rfl rfl ?_
      refine WL.mv rfl rfl ?_
      obtain ⟨v, hv7, hm⟩ := bind_some hm
      refine WL.op rfl (Op1.idx hv7 Try.underlying24 Try.sizeOf111 (.tmp rfl) (.tmp rfl)) ?_
      refine WL.op rfl (Op1.fieldAddr Try.underlying111 rfl (fun w => ⟨0, Try.sizeOf9 w⟩) fapi_Word_0 (.tmp rfl)) ?_
      refine WL.op rfl (Op1.load ty9 (.tmp rfl)) ?_
      refine WL.op rfl (Op1.lenS Try.underlying9 (.tmp rfl)) ?_
      refine WL.op rfl (Op1.gtI (.tmp rfl) (.int (inR64.2 (by omega)))) ?_
      refine WL.ns ?_
      refine W.cond (.tmp rfl) (fun hc8 => ?_) (fun hc8 => ?_)
      · have hp9 := of_decide_eq_true hc8
        rw [if_pos hp9] at hm
        refine W.sr ?_
        refine WL.op rfl (Op1.assign .bool) ?_
        refine WL.ns ?_
        have hr10 := Option.some.inj hm
        clear hm
        subst hr10
        have hm := hk3
        try dsimp only at hm
        cases hm
        exact W.ret1 () rfl (.tmp rfl) trivial
      · have hp9 := of_decide_eq_false hc8
        rw [if_neg hp9] at hm
        refine W.skip ?_
        refine WN.block ?_
        refine WN.seq ?_
        refine W.region ?_
        refine WL.mv rfl rfl ?_
        refine WL.lenL (s := 0) (.tmp rfl) fun hl11 => ?_
        refine WL.op rfl (Op1.addI1 (.tmp rfl) (.int (inR64.2 (by omega))) hp6 hl11) ?_
        refine WL.gv rfl rfl ?_
        refine WL.nil ?_
        exact WN.again n4 (i + 1) (Nat.lt_succ_self n4) hm ⟨Ent.q rfl, Ent.q rfl, trivial⟩ trivial
    · have hp6 := of_decide_eq_false hc5
      rw [if_neg hp6] at hm
      refine W.exit rfl ?_
      have hr12 := Option.some.inj hm
      clear hm
      subst hr12
      have hm := hk3
      try dsimp only at hm
      refine WN.seq ?_
      refine W.sr ?_
      refine WL.mv rfl rfl ?_
      refine WL.op rfl (Op1.lenL Try.underlying24 (.tmp rfl)) ?_
      refine WL.op rfl (Op1.leI (.tmp rfl) (.int (inR64.2 (by omega)))) ?_
      refine WL.gv rfl rfl ?_
      refine WL.ns ?_
      cases hm
      exact W.ret1 () rfl (.tmp rfl) trivial

theorem r06_words_spec : ∀ (n : Nat) (u : api_Unit) (r : Bool), M.r06_words n u = some r → FSpec Try.prog 43 [(tapi_Unit.is u)] (tB.is r) := by
  intro n
  induction n with
  | zero => intro u r hm; cases hm
  | succ n ih =>
    intro u r hm
    rw [M.r06_words.eq_2] at hm
    refine FSpec.of Try.func43 rfl rfl rfl (fun g0 => ?_)
    refine W.sr ?_
    refine WL.op rfl (Op1.box (.tmp rfl)) ?_
    refine WL.op rfl (Op1.assign .bool) ?_
    refine WL.ns ?_
    refine W.seq ?_
    obtain ⟨s1, hs2, hk3⟩ := bind_some hm
    clear hm
    refine W.join (fun s : Bool => s = s1) (fun s => [(19, (tB.is s)), (1, (tapi_Unit.ptr u))]) (fun s => []) ?_ ?_
    · rintro v hj25
      try dsimp only at hj25
      subst hj25
      have hm := hk3
      clear hk3
      try dsimp only at hm
      change W _ _ _ _ _ _ _ [(19, (tB.is v)), (1, (tapi_Unit.ptr u))] []
      refine W.cond (.tmp rfl) (fun hc10 => ?_) (fun hc10 => ?_)
      · have hp11 := hc10
        rw [if_pos hp11] at hm
        refine W.sr ?_
        refine WL.op rfl (Op1.assign .bool) ?_
        refine WL.ns ?_
        cases hm
        exact W.ret1 () rfl (.tmp rfl) trivial
      · have hp11 := ne_of_false hc10
        rw [if_neg hp11] at hm
        refine W.skip ?_
        refine WN.seq ?_
        refine W.seq ?_
        refine W.sr ?_
        refine WL.op rfl (Op1.assign (.int (inR64.2 (by omega)))) ?_
        refine WL.ns ?_
        refine W.block ?_
        obtain ⟨s12, hs13, hk14⟩ := bind_some hm
        clear hm
        refine W.loop (fun m (s : Int) => M.r06_words_loop1 u (M.r06_words n) m s = some s12) (fun s => [(3, ((tI .i64).is s)), (1, (tapi_Unit.ptr u))]) (fun s => []) _ (0 : Int) hs13 ⟨Ent.q rfl, Ent.q rfl, trivial⟩ trivial ?_
        rintro n15 i hm
        try dsimp only at hm
        change W _ _ _ _ _ _ _ [(3, ((tI .i64).is i)), (1, (tapi_Unit.ptr u))] []
        cases n15 with
        | zero => rw [M.r06_words_loop1.eq_1] at hm; cases hm
        | succ n15 =>
          rw [M.r06_words_loop1.eq_2] at hm
          refine W.seq ?_
          refine W.sr ?_
          refine WL.mv rfl rfl ?_
          refine WL.op rfl (Op1.fieldAddr Try.underlying27 rfl (fun w => ⟨0, Try.sizeOf25 w⟩) fapi_Unit_5 (.tmp rfl)) ?_
          refine WL.op rfl (Op1.load ty25 (.tmp rfl)) ?_
          refine WL.op rfl (Op1.lenL Try.underlying25 (.tmp rfl)) ?_
          refine WL.op rfl (Op1.ltI (.tmp rfl) (.tmp rfl)) ?_
          refine WL.ns ?_
          refine W.cond (.tmp rfl) (fun hc16 => ?_) (fun hc16 => ?_)
          · have hp17 := of_decide_eq_true hc16
            rw [if_pos hp17] at hm
            refine W.skip ?_
            refine WN.seq ?_
            refine W.seq ?_
            refine W.block ?_
            refine W.sr ?_
            refine WL.op rfl (Op1.fieldAddr Try.underlying27 rfl (fun w => ⟨0, Try.sizeOf25 w⟩) fapi_Unit_5 (.tmp rfl)) ?_
            refine WL.op rfl (Op1.load ty25 (.tmp rfl)) ?_
            refine WL.mv rfl rfl ?_
            obtain ⟨v1, hv18, hm⟩ := bind_some hm
            refine WL.op rfl (Op1.idx hv18 Try.underlying25 Try.sizeOf27 (.tmp rfl) (.tmp rfl)) ?_
            refine WL.op rfl (Op1.load ty27 (.tmp rfl)) ?_
            obtain ⟨words, hv19, hm⟩ := bind_some hm
            refine WL.op rfl (Op1.call Try.call43 (ih _ _ hv19) ⟨(.tmp rfl), trivial⟩) ?_
            refine WL.op rfl (Op1.notB (.tmp rfl)) ?_
            refine WL.ns ?_
            refine W.cond (.tmp rfl) (fun hc20 => ?_) (fun hc20 => ?_)
            · have hp21 := not_pos hc20
              rw [if_pos hp21] at hm
              refine W.sr ?_
              refine WL.op rfl (Op1.assign .bool) ?_
              refine WL.ns ?_
              have hr22 := Option.some.inj hm
              clear hm
              subst hr22
              have hm := hk14
              try dsimp only at hm
              cases hm
              exact W.ret1 () rfl (.tmp rfl) trivial
            · have hp21 := not_neg hc20
              rw [if_neg hp21] at hm
              refine W.skip ?_
              refine WN.block ?_
              refine WN.seq ?_
              refine W.region ?_
              refine WL.mv rfl rfl ?_
              refine WL.lenL (s := 22) (.tmp rfl) fun hl23 => ?_
              refine WL.op rfl (Op1.addI1 (.tmp rfl) (.int (inR64.2 (by omega))) hp17 hl23) ?_
              refine WL.gv rfl rfl ?_
              refine WL.nil ?_
              exact WN.again n15 (i + 1) (Nat.lt_succ_self n15) hm ⟨Ent.q rfl, Ent.q rfl, trivial⟩ trivial
          · have hp17 := of_decide_eq_false hc16
            rw [if_neg hp17] at hm
            refine W.exit rfl ?_
            have hr24 := Option.some.inj hm
            clear hm
            subst hr24
            have hm := hk14
            try dsimp only at hm
            refine WN.seq ?_
            refine W.sr ?_
            refine WL.op rfl (Op1.assign .bool) ?_
            refine WL.ns ?_
            cases hm
            exact W.ret1 () rfl (.tmp rfl) trivial
    · have hm := hs2
      clear hs2
      refine W.region ?_
      refine WL.op rfl (Op1.fieldAddr Try.underlying27 rfl (fun w => ⟨0, Try.sizeOf9 w⟩) fapi_Unit_2 (.tmp rfl)) ?_
      refine WL.op rfl (Op1.load ty9 (.tmp rfl)) ?_
      refine WL.op rfl (Op1.lenS Try.underlying9 (.tmp rfl)) ?_
      refine WL.op rfl (Op1.gtI (.tmp rfl) (.int (inR64.2 (by omega)))) ?_
      refine WL.mv rfl rfl ?_
      rcases bcases (decide ((30 : Int) < (u.Label.length : Int))) with hb4 | hb4
      · have hp5 := of_decide_eq_true hb4
        rw [if_pos hp5] at hm
        refine WL.pass rfl rfl rfl rfl hb4 rfl rfl ?_
        refine WL.pass rfl rfl rfl rfl hb4 rfl rfl ?_
        refine WL.pass rfl rfl rfl rfl hb4 rfl rfl ?_
        refine WL.pass rfl rfl rfl rfl hb4 rfl rfl ?_
        refine WL.op rfl (Op1.pickT (.tmp rfl) hb4 .bool) ?_
        refine WL.mv rfl rfl ?_
        refine WL.pass rfl rfl rfl rfl rfl rfl rfl ?_
        refine WL.pass rfl rfl rfl rfl rfl rfl rfl ?_
        refine WL.pass rfl rfl rfl rfl rfl rfl rfl ?_
        refine WL.pass rfl rfl rfl rfl rfl rfl rfl ?_
        refine WL.op rfl (Op1.pickT (.tmp rfl) rfl .bool) ?_
        refine WL.nil ?_
        exact WN.meet true (Option.some.inj hm) ⟨Ent.q rfl, Ent.q rfl, trivial⟩ trivial
      · have hp5 := of_decide_eq_false hb4
        rw [if_neg hp5] at hm
        refine WL.run rfl rfl rfl rfl hb4 rfl rfl (Op1.fieldAddr Try.underlying27 rfl (fun w => ⟨0, Try.sizeOf24 w⟩) fapi_Unit_3 (.tmp rfl)) ?_
        refine WL.run rfl rfl rfl rfl hb4 rfl rfl (Op1.load ty24 (.tmp rfl)) ?_
        obtain ⟨short, hv6, hm⟩ := bind_some hm
        refine WL.run rfl rfl rfl rfl hb4 rfl rfl (Op1.call Try.call70 (r06_short_spec _ _ _ hv6) ⟨(.tmp rfl), trivial⟩) ?_
        refine WL.run rfl rfl rfl rfl hb4 rfl rfl (Op1.notB (.tmp rfl)) ?_
        refine WL.op rfl (Op1.pickF (.tmp rfl) hb4 (.tmp rfl)) ?_
        refine WL.mv rfl rfl ?_
        rcases bcases (!short) with hb7 | hb7
        · have hp8 := not_pos hb7
          rw [if_pos hp8] at hm
          refine WL.pass rfl rfl rfl rfl hb7 rfl rfl ?_
          refine WL.pass rfl rfl rfl rfl hb7 rfl rfl ?_
          refine WL.pass rfl rfl rfl rfl hb7 rfl rfl ?_
          refine WL.pass rfl rfl rfl rfl hb7 rfl rfl ?_
          refine WL.op rfl (Op1.pickT (.tmp rfl) hb7 .bool) ?_
          refine WL.nil ?_
          exact WN.meet true (Option.some.inj hm) ⟨Ent.q rfl, Ent.q rfl, trivial⟩ trivial
        · have hp8 := not_neg hb7
          rw [if_neg hp8] at hm
          refine WL.run rfl rfl rfl rfl hb7 rfl rfl (Op1.fieldAddr Try.underlying27 rfl (fun w => ⟨0, Try.sizeOf24 w⟩) fapi_Unit_4 (.tmp rfl)) ?_
          refine WL.run rfl rfl rfl rfl hb7 rfl rfl (Op1.load ty24 (.tmp rfl)) ?_
          obtain ⟨short1, hv9, hm⟩ := bind_some hm
          refine WL.run rfl rfl rfl rfl hb7 rfl rfl (Op1.call Try.call70 (r06_short_spec _ _ _ hv9) ⟨(.tmp rfl), trivial⟩) ?_
          refine WL.run rfl rfl rfl rfl hb7 rfl rfl (Op1.notB (.tmp rfl)) ?_
          refine WL.op rfl (Op1.pickF (.tmp rfl) hb7 (.tmp rfl)) ?_
          refine WL.nil ?_
          exact WN.meet (!short1) (Option.some.inj hm) ⟨Ent.q rfl, Ent.q rfl, trivial⟩ trivial

theorem r06_Few_spec (n : Nat) (u : api_Unit) (most : Int) (r : Bool) (hm : M.r06_Few n u most = some r) : FSpec Try.prog 29 [(tapi_Unit.is u), ((tI .i64).is most)] (tB.is r) := by
  unfold M.r06_Few at hm
  refine FSpec.of Try.func29 rfl rfl rfl (fun g0 => ?_)
  refine W.sr ?_
  refine WL.op rfl (Op1.box (.tmp rfl)) ?_
  refine WL.op rfl (Op1.assign .bool) ?_
  refine WL.nr ?_
  refine WL.op rfl (Op1.load ty27 (.tmp rfl)) ?_
  refine WL.mv rfl rfl ?_
  obtain ⟨size, hv1, hm⟩ := bind_some hm
  refine WL.op rfl (Op1.call Try.call42 (r06_size_spec _ _ _ _ _ hv1) ⟨(.tmp rfl), (.int (inR64.2 (by omega))), (.tmp rfl), trivial⟩) ?_
  refine WL.mv rfl rfl ?_
  refine WL.op rfl (Op1.leI (.tmp rfl) (.tmp rfl)) ?_
  refine WL.mv rfl rfl ?_
  rcases bcases (decide (size ≤ most)) with hb2 | hb2
  · have hp3 := of_decide_eq_true hb2
    rw [if_pos hp3] at hm
    refine WL.run rfl rfl rfl rfl hb2 rfl rfl (Op1.load ty27 (.tmp rfl)) ?_
    obtain ⟨words, hv4, hm⟩ := bind_some hm
    refine WL.run rfl rfl rfl rfl hb2 rfl rfl (Op1.call Try.call43 (r06_words_spec _ _ _ hv4) ⟨(.tmp rfl), trivial⟩) ?_
    refine WL.op rfl (Op1.pickT (.tmp rfl) hb2 (.tmp rfl)) ?_
    refine WL.gv rfl rfl ?_
    refine WL.ns ?_
    cases hm
    exact W.ret1 () rfl (.tmp rfl) trivial
  · have hp3 := of_decide_eq_false hb2
    rw [if_neg hp3] at hm
    refine WL.pass rfl rfl rfl rfl hb2 rfl rfl ?_
    refine WL.pass rfl rfl rfl rfl hb2 rfl rfl ?_
    refine WL.op rfl (Op1.pickF (.tmp rfl) hb2 .bool) ?_
    refine WL.gv rfl rfl ?_
    refine WL.ns ?_
    cases hm
    exact W.ret1 () rfl (.tmp rfl) trivial

theorem r06_Texts_spec (n : Nat) (l : List api_Word) (r : (List Str)) (hm : M.r06_Texts n l = some r) : FSpec Try.prog 101 [((tL tapi_Word).is l)] ((tL tS).is r) := by
  unfold M.r06_Texts at hm
  refine FSpec.of Try.func101 rfl rfl rfl (fun g0 => ?_)
  refine W.sr ?_
  refine WL.op rfl (Op1.assign (.nil (t := tS))) ?_
  refine WL.nr ?_
  refine WL.opR rfl (OpR.buildSlice (n := 0) (ys := []) (z := ([] : Str)) (xs := ([] : List Str)) 5 Try.underlying32 el9 ze9 trivial (by simp) (by decide) rfl) (fun k => ?_)
  refine WL.gv rfl rfl ?_
  refine WL.ns ?_
  refine W.seq ?_
  refine W.sr ?_
  refine WL.op rfl (Op1.assign (.int (inR64.2 (by omega)))) ?_
  refine WL.ns ?_
  refine W.block ?_
  obtain ⟨s1, hs2, hk3⟩ := bind_some hm
  clear hm
  refine W.loop (fun m (s : ((List Str) × Int) × Tok) => M.r06_Texts_loop1 l m s.1.1 s.1.2 = some s1) (fun s => [(3, (tO tS s.2 s.1.1)), (4, ((tI .i64).is s.1.2)), (0, ((tL tapi_Word).is l))]) (fun s => [(5, Own tS 9 s.2 s.1.1.length)]) _ ((([] : List Str), (0 : Int)), k) hs2 ⟨Ent.q rfl, Ent.q rfl, Ent.q rfl, trivial⟩ ⟨rfl, rfl, trivial⟩ ?_
  rintro n4 ⟨⟨out, i⟩, k1⟩ hm
  try dsimp only at hm
  change W _ _ _ _ _ _ _ [(3, (tO tS k1 out)), (4, ((tI .i64).is i)), (0, ((tL tapi_Word).is l))] [(5, Own tS 9 k1 out.length)]
  cases n4 with
  | zero => rw [M.r06_Texts_loop1.eq_1] at hm; cases hm
  | succ n4 =>
    rw [M.r06_Texts_loop1.eq_2] at hm
    refine W.seq ?_
    refine W.sr ?_
    refine WL.mv rfl rfl ?_
    refine WL.mv rfl rfl ?_
    refine WL.op rfl (Op1.lenL Try.underlying24 (.tmp rfl)) ?_
    refine WL.op rfl (Op1.ltI (.tmp rfl) (.tmp rfl)) ?_
    refine WL.ns ?_
    refine W.cond (.tmp rfl) (fun hc5 => ?_) (fun hc5 => ?_)
    · have hp6 := of_decide_eq_true hc5
      rw [if_pos hp6] at hm
      refine W.skip ?_
      refine WN.seq ?_
      refine W.seq ?_
      refine W.block ?_
      refine W.region ?_
      refine WL.mv rfl rfl ?_
      refine WL.mv rfl rfl ?_
      refine WL.mv rfl rfl ?_
      obtain ⟨v, hv7, hm⟩ := bind_some hm
      refine WL.op rfl (Op1.idx hv7 Try.underlying24 Try.sizeOf111 (.tmp rfl) (.tmp rfl)) ?_
      refine WL.op rfl (Op1.fieldAddr Try.underlying111 rfl (fun w => ⟨0, Try.sizeOf9 w⟩) fapi_Word_0 (.tmp rfl)) ?_
      refine WL.op rfl (Op1.load ty9 (.tmp rfl)) ?_
      refine WL.op rfl (Op1.buildSlice (n := 1) (ys := [(0, v.Text)]) (z := ([] : Str)) (xs := [v.Text]) Try.underlying32 el9 ze9 ⟨rfl, (.tmp rfl), trivial⟩ (by simp) (by decide) rfl) ?_
      obtain ⟨out1, hv8, hm⟩ := bind_some hm
      refine WL.opR rfl (OpR.appC (key := 5) hv8 Try.underlying32 el9 (.tmp rfl) (.tmp rfl) rfl) (fun k2 => ?_)
      refine WL.gv rfl rfl ?_
      refine WL.nil ?_
      refine WN.block ?_
      refine WN.seq ?_
      refine W.region ?_
      refine WL.mv rfl rfl ?_
      refine WL.lenL (s := 0) (.tmp rfl) fun hl9 => ?_
      refine WL.op rfl (Op1.addI1 (.tmp rfl) (.int (inR64.2 (by omega))) hp6 hl9) ?_
      refine WL.gv rfl rfl ?_
      refine WL.nil ?_
      exact WN.again n4 ((out1, i + 1), k2) (Nat.lt_succ_self n4) hm ⟨Ent.q rfl, Ent.q rfl, Ent.q rfl, trivial⟩ ⟨rfl, rfl, trivial⟩
    · have hp6 := of_decide_eq_false hc5
      rw [if_neg hp6] at hm
      refine W.exit rfl ?_
      have hr10 := Option.some.inj hm
      clear hm
      subst hr10
      have hm := hk3
      try dsimp only at hm
      refine WN.seq ?_
      refine W.sr ?_
      refine WL.mv rfl rfl ?_
      refine WL.gv rfl rfl ?_
      refine WL.ns ?_
      cases hm
      exact W.ret1 () rfl (Opd.own (.tmp rfl)) trivial

theorem r04_Word_spec (n : Nat) (s0_ : Str) (r : Bool) (hm : M.r04_Word n s0_ = some r) : FSpec Try.prog 103 [(tS.is s0_)] (tB.is r) := by
  unfold M.r04_Word at hm
  refine FSpec.of Try.func103 rfl rfl rfl (fun g0 => ?_)
  refine W.sr ?_
  refine WL.op rfl (Op1.assign .bool) ?_
  refine WL.ns ?_
  refine W.seq ?_
  obtain ⟨s1, hs2, hk3⟩ := bind_some hm
  clear hm
  refine W.join (fun s : Bool => s = s1) (fun s => [(11, (tB.is s)), (0, (tS.is s0_))]) (fun s => []) ?_ ?_
  · rintro v hj24
    try dsimp only at hj24
    subst hj24
    have hm := hk3
    clear hk3
    try dsimp only at hm
    change W _ _ _ _ _ _ _ [(11, (tB.is v)), (0, (tS.is s0_))] []
    refine W.cond (.tmp rfl) (fun hc6 => ?_) (fun hc6 => ?_)
    · have hp7 := hc6
      rw [if_pos hp7] at hm
      refine W.sr ?_
      refine WL.op rfl (Op1.assign .bool) ?_
      refine WL.ns ?_
      cases hm
      exact W.ret1 () rfl (.tmp rfl) trivial
    · have hp7 := ne_of_false hc6
      rw [if_neg hp7] at hm
      refine W.skip ?_
      refine WN.seq ?_
      refine W.seq ?_
      refine W.sr ?_
      refine WL.op rfl (Op1.assign (.int (inR64.2 (by omega)))) ?_
      refine WL.ns ?_
      refine W.block ?_
      obtain ⟨s8, hs9, hk10⟩ := bind_some hm
      clear hm
      refine W.loop (fun m (s : Int) => M.r04_Word_loop1 s0_ m s = some s8) (fun s => [(3, ((tI .i64).is s)), (0, (tS.is s0_))]) (fun s => []) _ (0 : Int) hs9 ⟨Ent.q rfl, Ent.q rfl, trivial⟩ trivial ?_
      rintro n11 i hm
      try dsimp only at hm
      change W _ _ _ _ _ _ _ [(3, ((tI .i64).is i)), (0, (tS.is s0_))] []
      cases n11 with
      | zero => rw [M.r04_Word_loop1.eq_1] at hm; cases hm
      | succ n11 =>
        rw [M.r04_Word_loop1.eq_2] at hm
        refine W.seq ?_
        refine W.sr ?_
        refine WL.mv rfl rfl ?_
        refine WL.mv rfl rfl ?_
        refine WL.op rfl (Op1.lenS Try.underlying9 (.tmp rfl)) ?_
        refine WL.op rfl (Op1.ltI (.tmp rfl) (.tmp rfl)) ?_
        refine WL.ns ?_
        refine W.cond (.tmp rfl) (fun hc12 => ?_) (fun hc12 => ?_)
        · have hp13 := of_decide_eq_true hc12
          rw [if_pos hp13] at hm
          refine W.skip ?_
          refine WN.seq ?_
          refine W.seq ?_
          refine W.block ?_
          refine W.sr ?_
          refine WL.mv rfl rfl ?_
          refine WL.mv rfl rfl ?_
          obtain ⟨b, hv14, hm⟩ := bind_some hm
          refine WL.op rfl (Op1.sidx hv14 Try.underlying9 (.tmp rfl) (.tmp rfl)) ?_
          refine WL.op rfl (Op1.ltI (.tmp rfl) (.int (inR8.2 (by omega)))) ?_
          refine WL.mv rfl rfl ?_
          rcases bcases (decide ((b.toNat : Int) < (33 : Int))) with hb15 | hb15
          · have hp16 := of_decide_eq_true hb15
            rw [if_pos hp16] at hm
            refine WL.pass rfl rfl rfl rfl hb15 rfl rfl ?_
            refine WL.pass rfl rfl rfl rfl hb15 rfl rfl ?_
            refine WL.pass rfl rfl rfl rfl hb15 rfl rfl ?_
            refine WL.pass rfl rfl rfl rfl hb15 rfl rfl ?_
            refine WL.op rfl (Op1.pickT (.tmp rfl) hb15 .bool) ?_
            refine WL.ns ?_
            refine W.condT (.tmp rfl) ?_
            refine W.sr ?_
            refine WL.op rfl (Op1.assign .bool) ?_
            refine WL.ns ?_
            have hr17 := Option.some.inj hm
            clear hm
            subst hr17
            have hm := hk10
            try dsimp only at hm
            cases hm
            exact W.ret1 () rfl (.tmp rfl) trivial
          · have hp16 := of_decide_eq_false hb15
            rw [if_neg hp16] at hm
            refine WL.run rfl rfl rfl rfl hb15 rfl rfl (Op1.move (.tmp rfl)) ?_
            refine WL.run rfl rfl rfl rfl hb15 rfl rfl (Op1.move (.tmp rfl)) ?_
            obtain ⟨b1, hv18, hm⟩ := bind_some hm
            refine WL.run rfl rfl rfl rfl hb15 rfl rfl (Op1.sidx hv18 Try.underlying9 (.tmp rfl) (.tmp rfl)) ?_
            refine WL.run rfl rfl rfl rfl hb15 rfl rfl (Op1.gtI (.tmp rfl) (.int (inR8.2 (by omega)))) ?_
            refine WL.op rfl (Op1.pickF (.tmp rfl) hb15 (.tmp rfl)) ?_
            refine WL.ns ?_
            refine W.cond (.tmp rfl) (fun hc19 => ?_) (fun hc19 => ?_)
            · have hp20 := of_decide_eq_true hc19
              rw [if_pos hp20] at hm
              refine W.sr ?_
              refine WL.op rfl (Op1.assign .bool) ?_
              refine WL.ns ?_
              have hr21 := Option.some.inj hm
              clear hm
              subst hr21
              have hm := hk10
              try dsimp only at hm
              cases hm
              exact W.ret1 () rfl (.tmp rfl) trivial
            · have hp20 := of_decide_eq_false hc19
              rw [if_neg hp20] at hm
              refine W.skip ?_
              refine WN.block ?_
              refine WN.seq ?_
              refine W.region ?_
              refine WL.mv rfl rfl ?_
              refine WL.lenS (s := 0) (.tmp rfl) fun hl22 => ?_
              refine WL.op rfl (Op1.addI1 (.tmp rfl) (.int (inR64.2 (by omega))) hp13 hl22) ?_
              refine WL.gv rfl rfl ?_
              refine WL.nil ?_
              exact WN.again n11 (i + 1) (Nat.lt_succ_self n11) hm ⟨Ent.q rfl, Ent.q rfl, trivial⟩ trivial
        · have hp13 := of_decide_eq_false hc12
          rw [if_neg hp13] at hm
          refine W.exit rfl ?_
          have hr23 := Option.some.inj hm
          clear hm
          subst hr23
          have hm := hk10
          try dsimp only at hm
          refine WN.seq ?_
          refine W.sr ?_
          refine WL.op rfl (Op1.assign .bool) ?_
          refine WL.ns ?_
          cases hm
          exact W.ret1 () rfl (.tmp rfl) trivial
  · have hm := hs2
    clear hs2
    refine W.region ?_
    refine WL.mv rfl rfl ?_
    refine WL.op rfl (Op1.lenS Try.underlying9 (.tmp rfl)) ?_
    refine WL.op rfl (Op1.ltI (.tmp rfl) (.int (inR64.2 (by omega)))) ?_
    refine WL.mv rfl rfl ?_
    rcases bcases (decide ((s0_.length : Int) < (1 : Int))) with hb4 | hb4
    · have hp5 := of_decide_eq_true hb4
      rw [if_pos hp5] at hm
      refine WL.pass rfl rfl rfl rfl hb4 rfl rfl ?_
      refine WL.pass rfl rfl rfl rfl hb4 rfl rfl ?_
      refine WL.pass rfl rfl rfl rfl hb4 rfl rfl ?_
      refine WL.op rfl (Op1.pickT (.tmp rfl) hb4 .bool) ?_
      refine WL.nil ?_
      exact WN.meet true (Option.some.inj hm) ⟨Ent.q rfl, Ent.q rfl, trivial⟩ trivial
    · have hp5 := of_decide_eq_false hb4
      rw [if_neg hp5] at hm
      refine WL.run rfl rfl rfl rfl hb4 rfl rfl (Op1.move (.tmp rfl)) ?_
      refine WL.run rfl rfl rfl rfl hb4 rfl rfl (Op1.lenS Try.underlying9 (.tmp rfl)) ?_
      refine WL.run rfl rfl rfl rfl hb4 rfl rfl (Op1.gtI (.tmp rfl) (.int (inR64.2 (by omega)))) ?_
      refine WL.op rfl (Op1.pickF (.tmp rfl) hb4 (.tmp rfl)) ?_
      refine WL.nil ?_
      exact WN.meet (decide ((24 : Int) < (s0_.length : Int))) (Option.some.inj hm) ⟨Ent.q rfl, Ent.q rfl, trivial⟩ trivial

theorem r04_May_spec (n : Nat) (l : List Str) (r : Bool) (hm : M.r04_May n l = some r) : FSpec Try.prog 100 [((tL tS).is l)] (tB.is r) := by
  unfold M.r04_May at hm
  refine FSpec.of Try.func100 rfl rfl rfl (fun g0 => ?_)
  refine W.sr ?_
  refine WL.op rfl (Op1.assign .bool) ?_
  refine WL.ns ?_
  refine W.seq ?_
  refine W.sr ?_
  refine WL.mv rfl rfl ?_
  refine WL.op rfl (Op1.lenL Try.underlying32 (.tmp rfl)) ?_
  refine WL.op rfl (Op1.gtI (.tmp rfl) (.int (inR64.2 (by omega)))) ?_
  refine WL.ns ?_
  refine W.cond (.tmp rfl) (fun hc1 => ?_) (fun hc1 => ?_)
  · have hp2 := of_decide_eq_true hc1
    rw [if_pos hp2] at hm
    refine W.sr ?_
    refine WL.op rfl (Op1.assign .bool) ?_
    refine WL.ns ?_
    cases hm
    exact W.ret1 () rfl (.tmp rfl) trivial
  · have hp2 := of_decide_eq_false hc1
    rw [if_neg hp2] at hm
    refine W.skip ?_
    refine WN.seq ?_
    refine W.seq ?_
    refine W.sr ?_
    refine WL.op rfl (Op1.assign (.int (inR64.2 (by omega)))) ?_
    refine WL.ns ?_
    refine W.block ?_
    obtain ⟨s3, hs4, hk5⟩ := bind_some hm
    clear hm
    refine W.loop (fun m (s : Int) => M.r04_May_loop1 l m s = some s3) (fun s => [(3, ((tI .i64).is s)), (0, ((tL tS).is l))]) (fun s => []) _ (0 : Int) hs4 ⟨Ent.q rfl, Ent.q rfl, trivial⟩ trivial ?_
    rintro n6 i hm
    try dsimp only at hm
    change W _ _ _ _ _ _ _ [(3, ((tI .i64).is i)), (0, ((tL tS).is l))] []
    cases n6 with
    | zero => rw [M.r04_May_loop1.eq_1] at hm; cases hm
    | succ n6 =>
      rw [M.r04_May_loop1.eq_2] at hm
      refine W.seq ?_
      refine W.sr ?_
      refine WL.mv rfl rfl ?_
      refine WL.mv rfl rfl ?_
      refine WL.op rfl (Op1.lenL Try.underlying32 (.tmp rfl)) ?_
      refine WL.op rfl (Op1.ltI (.tmp rfl) (.tmp rfl)) ?_
      refine WL.ns ?_
      refine W.cond (.tmp rfl) (fun hc7 => ?_) (fun hc7 => ?_)
      · have hp8 := of_decide_eq_true hc7
        rw [if_pos hp8] at hm
        refine W.skip ?_
        refine WN.seq ?_
        refine W.seq ?_
        refine W.block ?_
        refine W.sr ?_
        refine WL.mv rfl rfl ?_
        refine WL.mv rfl rfl ?_
        obtain ⟨v, hv9, hm⟩ := bind_some hm
        refine WL.op rfl (Op1.idx hv9 Try.underlying32 Try.sizeOf9 (.tmp rfl) (.tmp rfl)) ?_
        refine WL.op rfl (Op1.load ty9 (.tmp rfl)) ?_
        obtain ⟨word, hv10, hm⟩ := bind_some hm
        refine WL.op rfl (Op1.call Try.call103 (r04_Word_spec _ _ _ hv10) ⟨(.tmp rfl), trivial⟩) ?_
        refine WL.op rfl (Op1.notB (.tmp rfl)) ?_
        refine WL.ns ?_
        refine W.cond (.tmp rfl) (fun hc11 => ?_) (fun hc11 => ?_)
        · have hp12 := not_pos hc11
          rw [if_pos hp12] at hm
          refine W.sr ?_
          refine WL.op rfl (Op1.assign .bool) ?_
          refine WL.ns ?_
          have hr13 := Option.some.inj hm
          clear hm
          subst hr13
          have hm := hk5
          try dsimp only at hm
          cases hm
          exact W.ret1 () rfl (.tmp rfl) trivial
        · have hp12 := not_neg hc11
          rw [if_neg hp12] at hm
          refine W.skip ?_
          refine WN.block ?_
          refine WN.seq ?_
          refine W.region ?_
          refine WL.mv rfl rfl ?_
          refine WL.lenL (s := 0) (.tmp rfl) fun hl14 => ?_
          refine WL.op rfl (Op1.addI1 (.tmp rfl) (.int (inR64.2 (by omega))) hp8 hl14) ?_
          refine WL.gv rfl rfl ?_
          refine WL.nil ?_
          exact WN.again n6 (i + 1) (Nat.lt_succ_self n6) hm ⟨Ent.q rfl, Ent.q rfl, trivial⟩ trivial
      · have hp8 := of_decide_eq_false hc7
        rw [if_neg hp8] at hm
        refine W.exit rfl ?_
        have hr15 := Option.some.inj hm
        clear hm
        subst hr15
        have hm := hk5
        try dsimp only at hm
        refine WN.seq ?_
        refine W.sr ?_
        refine WL.op rfl (Op1.assign .bool) ?_
        refine WL.ns ?_
        cases hm
        exact W.ret1 () rfl (.tmp rfl) trivial

theorem r06_row_spec (n : Nat) (l : List api_Word) (r : Bool) (hm : M.r06_row n l = some r) : FSpec Try.prog 94 [((tL tapi_Word).is l)] (tB.is r) := by
  unfold M.r06_row at hm
  refine FSpec.of Try.func94 rfl rfl rfl (fun g0 => ?_)
  refine W.sr ?_
  refine WL.op rfl (Op1.assign .bool) ?_
  refine WL.nr ?_
  refine WL.mv rfl rfl ?_
  refine WL.op rfl (Op1.lenL Try.underlying24 (.tmp rfl)) ?_
  refine WL.op rfl (Op1.leI (.tmp rfl) (.int (inR64.2 (by omega)))) ?_
  refine WL.mv rfl rfl ?_
  rcases bcases (decide ((l.length : Int) ≤ (256 : Int))) with hb1 | hb1
  · have hp2 := of_decide_eq_true hb1
    rw [if_pos hp2] at hm
    refine WL.run rfl rfl rfl rfl hb1 rfl rfl (Op1.move (.tmp rfl)) ?_
    obtain ⟨texts, hv3, hm⟩ := bind_some hm
    refine WL.run rfl rfl rfl rfl hb1 rfl rfl (Op1.call Try.call101 (r06_Texts_spec _ _ _ hv3) ⟨(.tmp rfl), trivial⟩) ?_
    obtain ⟨may, hv4, hm⟩ := bind_some hm
    refine WL.run rfl rfl rfl rfl hb1 rfl rfl (Op1.call Try.call100 (r04_May_spec _ _ _ hv4) ⟨(.tmp rfl), trivial⟩) ?_
    refine WL.op rfl (Op1.pickT (.tmp rfl) hb1 (.tmp rfl)) ?_
    refine WL.gv rfl rfl ?_
    refine WL.ns ?_
    cases hm
    exact W.ret1 () rfl (.tmp rfl) trivial
  · have hp2 := of_decide_eq_false hb1
    rw [if_neg hp2] at hm
    refine WL.pass rfl rfl rfl rfl hb1 rfl rfl ?_
    refine WL.pass rfl rfl rfl rfl hb1 rfl rfl ?_
    refine WL.pass rfl rfl rfl rfl hb1 rfl rfl ?_
    refine WL.op rfl (Op1.pickF (.tmp rfl) hb1 .bool) ?_
    refine WL.gv rfl rfl ?_
    refine WL.ns ?_
    cases hm
    exact W.ret1 () rfl (.tmp rfl) trivial

end Go.Proofs.Ytfclekegoleiaaa
