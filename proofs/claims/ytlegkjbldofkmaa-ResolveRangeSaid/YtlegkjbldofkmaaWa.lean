/-
  The code does what the models say: written by program.
-/
import Derived.Test.YtlegkjbldofkmaaTy
set_option linter.unusedVariables false
set_option linter.unusedSimpArgs false
namespace Go.Proofs.Ytlegkjbldofkmaa
open Go Go.Dec

set_option maxRecDepth 100000
set_option maxHeartbeats 4000000
theorem address_book_spec (s0_ : api_Step) (r : Bool) (hm : M.address_book s0_ = some r) : FSpec Try.prog 97 [(tapi_Step.is s0_)] (tB.is r) := by
 unfold M.address_book at hm
 refine FSpec.of Try.func97 rfl rfl rfl (fun g0 => ?_)
 refine W.sr ?_
 refine WL.op rfl (.box (.tmp rfl)) ?_
 refine WL.op rfl (.assign .bool) ?_
 refine WL.nr ?_
 refine WL.op rfl (.fieldAddr Try.underlying55 rfl (fun w => ⟨0, Try.sizeOf3 w⟩) fapi_Step_0 (.tmp rfl)) ?_
 refine WL.op rfl (.load ty3 (.tmp rfl)) ?_
 refine WL.op rfl (.eqI (.tmp rfl) .i64) ?_
 refine WL.mv rfl rfl ?_
 rcases bcases (decide (s0_.Kind = (0 : Int))) with hb1 | hb1
 ·have hp2 := of_decide_eq_true hb1
  rw [if_pos hp2] at hm
  refine WL.run rfl rfl rfl rfl hb1 rfl rfl (Op1.fieldAddr Try.underlying55 rfl (fun w => ⟨0, Try.sizeOf9 w⟩) fapi_Step_1 (.tmp rfl)) ?_
  refine WL.run rfl rfl rfl rfl hb1 rfl rfl (Op1.load ty9 (.tmp rfl)) ?_
  refine WL.run rfl rfl rfl rfl hb1 rfl rfl (Op1.eqS (.tmp rfl) (.str rfl (by decide))) ?_
  refine WL.op rfl (.pickT (.tmp rfl) hb1 (.tmp rfl)) ?_
  refine WL.gv rfl rfl ?_
  refine WL.ns ?_
  cases hm
  exact W.ret1 () rfl (.tmp rfl) trivial
 ·have hp2 := of_decide_eq_false hb1
  rw [if_neg hp2] at hm
  iterate 3 refine WL.pass rfl rfl rfl rfl hb1 rfl rfl ?_
  refine WL.op rfl (.pickF (.tmp rfl) hb1 .bool) ?_
  refine WL.gv rfl rfl ?_
  refine WL.ns ?_
  cases hm
  exact W.ret1 () rfl (.tmp rfl) trivial

theorem strings_indexFunc_spec (n : Nat) (s0_ : Str) (f : Int → Option Bool) (truth : Bool) (r : Int) (hm : M.strings_indexFunc n s0_ f truth = some r) : FSpec Try.prog 93 [(tS.is s0_), (tF Try.prog (fun s : Int × Bool => f s.1 = some s.2) (fun s : Int × Bool => [(tI .i32).is s.1]) (fun s : Int × Bool => (tB.is s.2))), (tB.is truth)] ((tI .i64).is r) := by
 unfold M.strings_indexFunc at hm
 refine FSpec.of Try.func93 rfl rfl rfl (fun g0 => ?_)
 refine W.sr ?_
 refine WL.op rfl (.assign .i64) ?_
 refine WL.ns ?_
 refine W.seq ?_
 refine W.sr ?_
 refine WL.mv rfl rfl ?_
 refine WL.opR rfl (OpR.range 10 Try.underlying9 (.tmp rfl)) (fun b => ?_)
 refine WL.ns ?_
 refine W.block ?_
 obtain ⟨s1, hs2, hk3⟩ := bind_some hm
 clear hm
 refine W.loop (fun m (s : Nat) => M.strings_indexFunc_loop1 s0_ f truth m s = some s1) (fun s => [(1, (tF Try.prog (fun s : Int × Bool => f s.1 = some s.2) (fun s : Int × Bool => [(tI .i32).is s.1]) (fun s : Int × Bool => (tB.is s.2)))), (2, (tB.is truth)), (10, (Bp b 0))]) (fun s => [(10, It s0_ s b)]) _ 0 hs2 ⟨Ent.q rfl, Ent.q rfl, Ent.q rfl, trivial⟩ ⟨rfl, rfl, trivial⟩ ?_
 rintro n4 v hm
 try dsimp only at hm
 change W _ _ _ _ _ _ _ [(1, (tF Try.prog (fun s : Int × Bool => f s.1 = some s.2) (fun s : Int × Bool => [(tI .i32).is s.1]) (fun s : Int × Bool => (tB.is s.2)))), (2, (tB.is truth)), (10, (Bp b 0))] [(10, It s0_ v b)]
 cases n4 with
 | zero => rw [M.strings_indexFunc_loop1.eq_1] at hm; cases hm
 | succ n4 =>
  rw [M.strings_indexFunc_loop1.eq_2] at hm
  refine W.sr ?_
  by_cases hp5 : v < s0_.length
  ·rw [if_pos hp5] at hm
   refine WL.opR rfl (OpR.nextT (b := b) 10 hp5 rfl (.tmp rfl)) (fun _ => ?_)
   refine WL.op rfl (.extract30 (.tmp rfl)) ?_
   refine WL.ns ?_
   refine W.seq ?_
   refine W.condT (.tmp rfl) ?_
   refine W.skip ?_
   refine WN.seq ?_
   refine W.block ?_
   refine W.sr ?_
   refine WL.op rfl (.extract31 (.tmp rfl)) ?_
   refine WL.op rfl (.extract32 (.tmp rfl)) ?_
   refine WL.gv rfl rfl ?_
   refine WL.gv rfl rfl ?_
   refine WL.nr ?_
   refine WL.mv rfl rfl ?_
   refine WL.mv rfl rfl ?_
   obtain ⟨v1, hv6, hm⟩ := bind_some hm
   refine WL.op rfl (.callF (ok := (fun s : Int × Bool => f s.1 = some s.2)) (As := (fun s : Int × Bool => [(tI .i32).is s.1])) (A := (fun s : Int × Bool => (tB.is s.2))) (s := (((runeAt s0_ v).1 : Int), v1)) (.tmp rfl) hv6 ⟨(.tmp rfl), trivial⟩) ?_
   refine WL.mv rfl rfl ?_
   refine WL.op rfl (.eqB Try.underlying4 (.tmp rfl) (.tmp rfl)) ?_
   refine WL.ns ?_
   refine W.cond (.tmp rfl) (fun hc7 => ?_) (fun hc7 => ?_)
   ·have hp8 := hc7
    rw [if_pos hp8] at hm
    refine W.sr ?_
    refine WL.mv rfl rfl ?_
    refine WL.gv rfl rfl ?_
    refine WL.ns ?_
    have hr9 := Option.some.inj hm
    clear hm
    subst hr9
    have hm := hk3
    try dsimp only at hm
    cases hm
    exact W.ret1 () rfl (.tmp rfl) trivial
   ·have hp8 := ne_of_false hc7
    rw [if_neg hp8] at hm
    refine W.skip ?_
    refine WN.block ?_
    exact WN.again n4 (v + (runeAt s0_ v).2) (Nat.lt_succ_self n4) hm ⟨Ent.q rfl, Ent.q rfl, Ent.q rfl, trivial⟩ ⟨rfl, rfl, trivial⟩
  ·rw [if_neg hp5] at hm
   refine WL.op rfl (.nextF 10 hp5 rfl (.tmp rfl)) ?_
   refine WL.op rfl (.extract10 (.tmp rfl)) ?_
   refine WL.ns ?_
   refine W.seq ?_
   refine W.condF (.tmp rfl) ?_
   refine W.exit rfl ?_
   have hr10 := Option.some.inj hm
   clear hm
   subst hr10
   have hm := hk3
   try dsimp only at hm
   refine WN.seq ?_
   refine W.sr ?_
   refine WL.op rfl (.assign .i64) ?_
   refine WL.ns ?_
   cases hm
   exact W.ret1 () rfl (.tmp rfl) trivial

theorem strings_IndexFunc_spec (n : Nat) (s0_ : Str) (f : Int → Option Bool) (r : Int) (hm : M.strings_IndexFunc n s0_ f = some r) : FSpec Try.prog 89 [(tS.is s0_), (tF Try.prog (fun s : Int × Bool => f s.1 = some s.2) (fun s : Int × Bool => [(tI .i32).is s.1]) (fun s : Int × Bool => (tB.is s.2)))] ((tI .i64).is r) := by
 unfold M.strings_IndexFunc at hm
 refine FSpec.of Try.func89 rfl rfl rfl (fun g0 => ?_)
 refine W.sr ?_
 refine WL.op rfl (.assign .i64) ?_
 refine WL.nr ?_
 refine WL.mv rfl rfl ?_
 refine WL.mv rfl rfl ?_
 obtain ⟨indexf, hv1, hm⟩ := bind_some hm
 refine WL.op rfl (.call Try.call93 (strings_indexFunc_spec _ _ _ _ _ hv1) ⟨(.tmp rfl), (.tmp rfl), .bool, trivial⟩) ?_
 refine WL.gv rfl rfl ?_
 refine WL.ns ?_
 cases hm
 exact W.ret1 () rfl (.tmp rfl) trivial

theorem label_parted_1_spec (b : Int) (r : Bool) (hm : M.label_parted_1 b = some r) : FSpec Try.prog 90 [((tI .i32).is b)] (tB.is r) := by
 unfold M.label_parted_1 at hm
 refine FSpec.of Try.func90 rfl rfl rfl (fun g0 => ?_)
 refine W.sr ?_
 refine WL.op rfl (.assign .bool) ?_
 refine WL.nr ?_
 refine WL.mv rfl rfl ?_
 refine WL.op rfl (.ltI (.tmp rfl) (.int (inR32.2 (by omega)))) ?_
 refine WL.mv rfl rfl ?_
 rcases bcases (decide (b < (48 : Int))) with hb1 | hb1
 ·have hp2 := of_decide_eq_true hb1
  rw [if_pos hp2] at hm
  iterate 2 refine WL.pass rfl rfl rfl rfl hb1 rfl rfl ?_
  refine WL.op rfl (.pickT (.tmp rfl) hb1 .bool) ?_
  refine WL.gv rfl rfl ?_
  refine WL.ns ?_
  cases hm
  exact W.ret1 () rfl (.tmp rfl) trivial
 ·have hp2 := of_decide_eq_false hb1
  rw [if_neg hp2] at hm
  refine WL.run rfl rfl rfl rfl hb1 rfl rfl (Op1.move (.tmp rfl)) ?_
  refine WL.run rfl rfl rfl rfl hb1 rfl rfl (Op1.gtI (.tmp rfl) (.int (inR32.2 (by omega)))) ?_
  refine WL.op rfl (.pickF (.tmp rfl) hb1 (.tmp rfl)) ?_
  refine WL.gv rfl rfl ?_
  refine WL.ns ?_
  cases hm
  exact W.ret1 () rfl (.tmp rfl) trivial

theorem label_parted_spec (n : Nat) (s0_ : Str) (r : Str × Str) (hm : M.label_parted n s0_ = some r) : FSpec Try.prog 71 [(tS.is s0_)] (Asn.tuple2 (tS.is r.1) (tS.is r.2)) := by
 unfold M.label_parted at hm
 refine FSpec.of Try.func71 rfl rfl rfl (fun g0 => ?_)
 refine W.sr ?_
 refine WL.op rfl (.assign (.str rfl (by decide))) ?_
 refine WL.op rfl (.assign (.str rfl (by decide))) ?_
 refine WL.nr ?_
 refine WL.mv rfl rfl ?_
 obtain ⟨indexf, hv1, hm⟩ := bind_some hm
 refine WL.op rfl (.call Try.call89 (strings_IndexFunc_spec _ _ _ _ hv1) ⟨(.tmp rfl), (Opd.fn Try.call90 (fun s hs => label_parted_1_spec _ _ hs)), trivial⟩) ?_
 refine WL.gv rfl rfl ?_
 refine WL.ns ?_
 refine W.seq ?_
 refine W.sr ?_
 refine WL.mv rfl rfl ?_
 refine WL.op rfl (.ltI (.tmp rfl) .i64) ?_
 refine WL.ns ?_
 refine W.cond (.tmp rfl) (fun hc2 => ?_) (fun hc2 => ?_)
 ·have hp3 := of_decide_eq_true hc2
  rw [if_pos hp3] at hm
  refine W.sr ?_
  refine WL.mv rfl rfl ?_
  refine WL.gv rfl rfl ?_
  refine WL.op rfl (.assign (.str rfl (by decide))) ?_
  refine WL.ns ?_
  cases hm
  exact W.ret2 () rfl rfl (.tmp rfl) (.tmp rfl) trivial
 ·have hp3 := of_decide_eq_false hc2
  rw [if_neg hp3] at hm
  refine W.skip ?_
  refine WN.seq ?_
  refine W.seq ?_
  obtain ⟨v, hv4, hm⟩ := bind_some hm
  obtain ⟨v1, hv5, hm⟩ := bind_some hm
  refine W.draw [.c (tS.is s0_), .c ((tI .i64).is indexf), .c (tS.is v), .c (tS.is s0_), .c ((tI .i64).is indexf), .c (tS.is v1), .c (tS.is v), .c (tS.is v1)] [([], [0]), ([], [4]), ([0, 1], []), ([], [0]), ([], [4]), ([3, 4], []), ([2], []), ([5], [])] Try.mixed rfl rfl rfl rfl ⟨.inr (Op1.move (.tmp rfl)), .inr (Op1.move (.tmp rfl)), .inr (Op1.sslcHi hv4 Try.underlying9 (.tmp rfl) (.tmp rfl)), .inr (Op1.move (.tmp rfl)), .inr (Op1.move (.tmp rfl)), .inr (Op1.sslcLo hv5 Try.underlying9 (.tmp rfl) (.tmp rfl)), .inr (Op1.assign (.tmp rfl)), .inr (Op1.assign (.tmp rfl)), trivial⟩ ?_
  refine WN.seq ?_
  cases hm
  exact W.ret2 () rfl rfl (.tmp rfl) (.tmp rfl) trivial

theorem strings_ContainsFunc_spec (n : Nat) (s0_ : Str) (f : Int → Option Bool) (r : Bool) (hm : M.strings_ContainsFunc n s0_ f = some r) : FSpec Try.prog 73 [(tS.is s0_), (tF Try.prog (fun s : Int × Bool => f s.1 = some s.2) (fun s : Int × Bool => [(tI .i32).is s.1]) (fun s : Int × Bool => (tB.is s.2)))] (tB.is r) := by
 unfold M.strings_ContainsFunc at hm
 refine FSpec.of Try.func73 rfl rfl rfl (fun g0 => ?_)
 refine W.sr ?_
 refine WL.op rfl (.assign .bool) ?_
 refine WL.nr ?_
 refine WL.mv rfl rfl ?_
 refine WL.mv rfl rfl ?_
 obtain ⟨indexf, hv1, hm⟩ := bind_some hm
 refine WL.op rfl (.call Try.call89 (strings_IndexFunc_spec _ _ _ _ hv1) ⟨(.tmp rfl), (.tmp rfl), trivial⟩) ?_
 refine WL.op rfl (.geI (.tmp rfl) .i64) ?_
 refine WL.gv rfl rfl ?_
 refine WL.ns ?_
 cases hm
 exact W.ret1 () rfl (.tmp rfl) trivial

theorem label_Valid_1_spec (b : Int) (r : Bool) (hm : M.label_Valid_1 b = some r) : FSpec Try.prog 72 [((tI .i32).is b)] (tB.is r) := by
 unfold M.label_Valid_1 at hm
 refine FSpec.of Try.func72 rfl rfl rfl (fun g0 => ?_)
 refine W.sr ?_
 refine WL.op rfl (.assign .bool) ?_
 refine WL.nr ?_
 refine WL.mv rfl rfl ?_
 refine WL.op rfl (.ltI (.tmp rfl) (.int (inR32.2 (by omega)))) ?_
 refine WL.mv rfl rfl ?_
 rcases bcases (decide (b < (65 : Int))) with hb1 | hb1
 ·have hp2 := of_decide_eq_true hb1
  rw [if_pos hp2] at hm
  iterate 2 refine WL.pass rfl rfl rfl rfl hb1 rfl rfl ?_
  refine WL.op rfl (.pickT (.tmp rfl) hb1 .bool) ?_
  refine WL.gv rfl rfl ?_
  refine WL.ns ?_
  cases hm
  exact W.ret1 () rfl (.tmp rfl) trivial
 ·have hp2 := of_decide_eq_false hb1
  rw [if_neg hp2] at hm
  refine WL.run rfl rfl rfl rfl hb1 rfl rfl (Op1.move (.tmp rfl)) ?_
  refine WL.run rfl rfl rfl rfl hb1 rfl rfl (Op1.gtI (.tmp rfl) (.int (inR32.2 (by omega)))) ?_
  refine WL.op rfl (.pickF (.tmp rfl) hb1 (.tmp rfl)) ?_
  refine WL.gv rfl rfl ?_
  refine WL.ns ?_
  cases hm
  exact W.ret1 () rfl (.tmp rfl) trivial

theorem label_Valid_spec (n : Nat) (s0_ : Str) (r : Bool) (hm : M.label_Valid n s0_ = some r) : FSpec Try.prog 47 [(tS.is s0_)] (tB.is r) := by
 unfold M.label_Valid at hm
 refine FSpec.of Try.func47 rfl rfl rfl (fun g0 => ?_)
 refine W.sr ?_
 refine WL.op rfl (.assign .bool) ?_
 refine WL.nr ?_
 refine WL.mv rfl rfl ?_
 obtain ⟨parted, hv1, hm⟩ := bind_some hm
 refine WL.op rfl (.call Try.call71 (label_parted_spec _ _ _ hv1) ⟨(.tmp rfl), trivial⟩) ?_
 refine WL.mv rfl rfl ?_
 refine WL.op rfl (.extract0 (.tmp rfl)) ?_
 refine WL.op rfl (.extract1 (.tmp rfl)) ?_
 refine WL.gv rfl rfl ?_
 refine WL.gv rfl rfl ?_
 refine WL.nr ?_
 refine WL.op rfl (.assign .func) ?_
 refine WL.nr ?_
 refine WL.mv rfl rfl ?_
 refine WL.op rfl (.lenS Try.underlying9 (.tmp rfl)) ?_
 refine WL.op rfl (.geI (.tmp rfl) .i64) ?_
 refine WL.mv rfl rfl ?_
 rcases bcases (decide ((1 : Int) ≤ (parted.1.length : Int))) with hb2 | hb2
 ·have hp3 := of_decide_eq_true hb2
  rw [if_pos hp3] at hm
  refine WL.run rfl rfl rfl rfl hb2 rfl rfl (Op1.move (.tmp rfl)) ?_
  refine WL.run rfl rfl rfl rfl hb2 rfl rfl (Op1.lenS Try.underlying9 (.tmp rfl)) ?_
  refine WL.run rfl rfl rfl rfl hb2 rfl rfl (Op1.leI (.tmp rfl) .i64) ?_
  refine WL.op rfl (.pickT (.tmp rfl) hb2 (.tmp rfl)) ?_
  refine WL.mv rfl rfl ?_
  rcases bcases (decide ((parted.1.length : Int) ≤ (4 : Int))) with hb4 | hb4
  ·have hp5 := of_decide_eq_true hb4
   rw [if_pos hp5] at hm
   refine WL.run rfl rfl rfl rfl hb4 rfl rfl (Op1.move (.tmp rfl)) ?_
   obtain ⟨b, hv6, hm⟩ := bind_some hm
   refine WL.run rfl rfl rfl rfl hb4 rfl rfl (Op1.sidx hv6 Try.underlying9 (.tmp rfl) .i64) ?_
   refine WL.run rfl rfl rfl rfl hb4 rfl rfl (Op1.neI (.tmp rfl) (.int (inR8.2 (by omega)))) ?_
   refine WL.op rfl (.pickT (.tmp rfl) hb4 (.tmp rfl)) ?_
   refine WL.mv rfl rfl ?_
   rcases bcases (decide ((b.toNat : Int) ≠ (48 : Int))) with hb7 | hb7
   ·have hp8 := of_decide_eq_true hb7
    rw [if_pos hp8] at hm
    refine WL.run rfl rfl rfl rfl hb7 rfl rfl (Op1.move (.tmp rfl)) ?_
    refine WL.run rfl rfl rfl rfl hb7 rfl rfl (Op1.lenS Try.underlying9 (.tmp rfl)) ?_
    refine WL.run rfl rfl rfl rfl hb7 rfl rfl (Op1.leI (.tmp rfl) .i64) ?_
    refine WL.op rfl (.pickT (.tmp rfl) hb7 (.tmp rfl)) ?_
    refine WL.mv rfl rfl ?_
    rcases bcases (decide ((parted.2.length : Int) ≤ (3 : Int))) with hb9 | hb9
    ·have hp10 := of_decide_eq_true hb9
     rw [if_pos hp10] at hm
     refine WL.run rfl rfl rfl rfl hb9 rfl rfl (Op1.move (.tmp rfl)) ?_
     refine WL.run rfl rfl rfl rfl hb9 rfl rfl (Op1.move (.tmp rfl)) ?_
     obtain ⟨contai, hv11, hm⟩ := bind_some hm
     refine WL.run rfl rfl rfl rfl hb9 rfl rfl (Op1.call Try.call73 (strings_ContainsFunc_spec _ _ _ _ hv11) ⟨(.tmp rfl), (Opd.fnE (.tmp rfl) Try.call72 (fun s hs => label_Valid_1_spec _ _ hs)), trivial⟩) ?_
     refine WL.run rfl rfl rfl rfl hb9 rfl rfl (Op1.notB (.tmp rfl)) ?_
     refine WL.op rfl (.pickT (.tmp rfl) hb9 (.tmp rfl)) ?_
     refine WL.gv rfl rfl ?_
     refine WL.ns ?_
     cases hm
     exact W.ret1 () rfl (.tmp rfl) trivial
    ·have hp10 := of_decide_eq_false hb9
     rw [if_neg hp10] at hm
     iterate 4 refine WL.pass rfl rfl rfl rfl hb9 rfl rfl ?_
     refine WL.op rfl (.pickF (.tmp rfl) hb9 .bool) ?_
     refine WL.gv rfl rfl ?_
     refine WL.ns ?_
     cases hm
     exact W.ret1 () rfl (.tmp rfl) trivial
   ·have hp8 := of_decide_eq_false hb7
    rw [if_neg hp8] at hm
    iterate 3 refine WL.pass rfl rfl rfl rfl hb7 rfl rfl ?_
    refine WL.op rfl (.pickF (.tmp rfl) hb7 .bool) ?_
    refine WL.mv rfl rfl ?_
    iterate 4 refine WL.pass rfl rfl rfl rfl rfl rfl rfl ?_
    refine WL.op rfl (.pickF (.tmp rfl) rfl .bool) ?_
    refine WL.gv rfl rfl ?_
    refine WL.ns ?_
    cases hm
    exact W.ret1 () rfl (.tmp rfl) trivial
  ·have hp5 := of_decide_eq_false hb4
   rw [if_neg hp5] at hm
   iterate 3 refine WL.pass rfl rfl rfl rfl hb4 rfl rfl ?_
   refine WL.op rfl (.pickF (.tmp rfl) hb4 .bool) ?_
   refine WL.mv rfl rfl ?_
   iterate 3 refine WL.pass rfl rfl rfl rfl rfl rfl rfl ?_
   refine WL.op rfl (.pickF (.tmp rfl) rfl .bool) ?_
   refine WL.mv rfl rfl ?_
   iterate 4 refine WL.pass rfl rfl rfl rfl rfl rfl rfl ?_
   refine WL.op rfl (.pickF (.tmp rfl) rfl .bool) ?_
   refine WL.gv rfl rfl ?_
   refine WL.ns ?_
   cases hm
   exact W.ret1 () rfl (.tmp rfl) trivial
 ·have hp3 := of_decide_eq_false hb2
  rw [if_neg hp3] at hm
  iterate 3 refine WL.pass rfl rfl rfl rfl hb2 rfl rfl ?_
  refine WL.op rfl (.pickF (.tmp rfl) hb2 .bool) ?_
  refine WL.mv rfl rfl ?_
  iterate 3 refine WL.pass rfl rfl rfl rfl rfl rfl rfl ?_
  refine WL.op rfl (.pickF (.tmp rfl) rfl .bool) ?_
  refine WL.mv rfl rfl ?_
  iterate 3 refine WL.pass rfl rfl rfl rfl rfl rfl rfl ?_
  refine WL.op rfl (.pickF (.tmp rfl) rfl .bool) ?_
  refine WL.mv rfl rfl ?_
  iterate 4 refine WL.pass rfl rfl rfl rfl rfl rfl rfl ?_
  refine WL.op rfl (.pickF (.tmp rfl) rfl .bool) ?_
  refine WL.gv rfl rfl ?_
  refine WL.ns ?_
  cases hm
  exact W.ret1 () rfl (.tmp rfl) trivial

theorem address_Valid_spec (n : Nat) (p : List api_Step) (r : Bool) (hm : M.address_Valid n p = some r) : FSpec Try.prog 96 [((tL tapi_Step).is p)] (tB.is r) := by
 unfold M.address_Valid at hm
 refine FSpec.of Try.func96 rfl rfl rfl (fun g0 => ?_)
 refine W.sr ?_
 refine WL.op rfl (.assign .bool) ?_
 refine WL.ns ?_
 refine W.seq ?_
 refine W.sr ?_
 refine WL.mv rfl rfl ?_
 refine WL.op rfl (.lenL Try.underlying28 (.tmp rfl)) ?_
 refine WL.op rfl (.move .i64) ?_
 refine WL.ns ?_
 refine W.block ?_
 obtain ⟨s1, hs2, hk3⟩ := bind_some hm
 clear hm
 refine W.loop (fun m (s : Int × List api_Step × List api_Step × Unit) => m = s.2.2.1.length ∧ p = s.2.1 ++ s.2.2.1 ∧ s.1 = (s.2.1.length : Int) ∧ M.address_Valid_loop1 n s.2.2.1 s.1 = some s1) (fun s => [(7, ((tI .i64).is s.1)), (0, ((tL tapi_Step).is p)), (5, ((tL tapi_Step).is p)), (6, ((tI .i64).is (p.length : Int)))]) (fun s => []) p.length ((0 : Int), [], p, ()) ⟨rfl, rfl, rfl, hs2⟩ ⟨Ent.q rfl, Ent.q rfl, Ent.q rfl, Ent.q rfl, trivial⟩ trivial ?_
 rintro m ⟨i, pre, rest1, _⟩ ⟨hn7, hxs4, hi5, hm⟩
 try dsimp only at hn7 hxs4 hi5 hm
 change W _ _ _ _ _ _ _ [(7, ((tI .i64).is i)), (0, ((tL tapi_Step).is p)), (5, ((tL tapi_Step).is p)), (6, ((tI .i64).is (p.length : Int)))] []
 refine W.lenL (s := 5) (.tmp rfl) fun hlen6 => ?_
 refine W.sr ?_
 refine WL.op rfl (.ltI (.tmp rfl) (.tmp rfl)) ?_
 refine WL.ns ?_
 refine W.seq ?_
 refine W.cond (.tmp rfl) (fun hc9 => ?_) (fun hc9 => ?_)
 ·have hp10 := of_decide_eq_true hc9
  obtain ⟨e, es, hrest12⟩ := range_more hxs4 hi5 hp10
  subst hrest12
  rw [M.address_Valid_loop1.eq_2] at hm
  refine W.skip ?_
  refine WN.seq ?_
  refine W.seq ?_
  refine W.block ?_
  refine W.sr ?_
  refine WL.mv rfl rfl ?_
  refine WL.op rfl (.idxPre hxs4 hi5 Try.underlying28 Try.sizeOf55 (.tmp rfl) (.tmp rfl)) ?_
  refine WL.op rfl (.load ty55 (.tmp rfl)) ?_
  refine WL.opR rfl (OpR.alloc 4 ze55) (fun b => ?_)
  refine WL.gv rfl rfl ?_
  refine WL.opU (OpR.storeB (b := b) 4 Try.sizeOf55 (Cellable.is tapi_Step e) rfl (.tmp rfl) (.tmp rfl)) (fun _ => ?_)
  refine WL.sealed (t := tapi_Step) (u := e) 4 4 rfl rfl ?_
  refine WL.ns ?_
  refine W.seq ?_
  obtain ⟨s13, hs14, hk15⟩ := bind_some hm
  clear hm
  refine W.join (fun s : Bool => s = s13) (fun s => [(17, (tB.is s)), (0, ((tL tapi_Step).is p)), (4, (tapi_Step.ptr e)), (5, ((tL tapi_Step).is p)), (6, ((tI .i64).is (p.length : Int))), (7, ((tI .i64).is i))]) (fun s => []) ?_ ?_
  ·rintro v hj31
   try dsimp only at hj31
   subst hj31
   have hm := hk15
   clear hk15
   try dsimp only at hm
   change W _ _ _ _ _ _ _ [(17, (tB.is v)), (0, ((tL tapi_Step).is p)), (4, (tapi_Step.ptr e)), (5, ((tL tapi_Step).is p)), (6, ((tI .i64).is (p.length : Int))), (7, ((tI .i64).is i))] []
   refine W.cond (.tmp rfl) (fun hc19 => ?_) (fun hc19 => ?_)
   ·have hp20 := hc19
    rw [if_pos hp20] at hm
    refine W.exit rfl ?_
    refine WN.seq ?_
    refine W.region ?_
    refine WL.op rfl (.addI (.tmp rfl) .i64 (range_inR hi5 hp10 hlen6)) ?_
    refine WL.mv rfl rfl ?_
    refine WL.nil ?_
    exact WN.again es.length (i + 1, pre ++ [e], es, ()) (range_lt hn7) ⟨rfl, range_step hxs4, range_idx hi5, hm⟩ ⟨Ent.q rfl, Ent.q rfl, Ent.q rfl, Ent.q rfl, trivial⟩ trivial
   ·have hp20 := ne_of_false hc19
    rw [if_neg hp20] at hm
    refine W.skip ?_
    refine WN.seq ?_
    refine W.sr ?_
    refine WL.op rfl (.fieldAddr Try.underlying55 rfl (fun w => ⟨0, Try.sizeOf3 w⟩) fapi_Step_0 (.tmp rfl)) ?_
    refine WL.op rfl (.load ty3 (.tmp rfl)) ?_
    refine WL.op rfl (.leI (.tmp rfl) .i64) ?_
    refine WL.mv rfl rfl ?_
    rcases bcases (decide (e.Kind ≤ (0 : Int))) with hb21 | hb21
    ·have hp22 := of_decide_eq_true hb21
     rw [if_pos hp22] at hm
     iterate 3 refine WL.pass rfl rfl rfl rfl hb21 rfl rfl ?_
     refine WL.op rfl (.pickT (.tmp rfl) hb21 .bool) ?_
     refine WL.mv rfl rfl ?_
     iterate 4 refine WL.pass rfl rfl rfl rfl rfl rfl rfl ?_
     refine WL.op rfl (.pickT (.tmp rfl) rfl .bool) ?_
     refine WL.ns ?_
     refine W.condT (.tmp rfl) ?_
     refine W.sr ?_
     refine WL.op rfl (.assign .bool) ?_
     refine WL.ns ?_
     have hr23 := Option.some.inj hm
     clear hm
     subst hr23
     have hm := hk3
     try dsimp only at hm
     cases hm
     exact W.ret1 () rfl (.tmp rfl) trivial
    ·have hp22 := of_decide_eq_false hb21
     rw [if_neg hp22] at hm
     refine WL.run rfl rfl rfl rfl hb21 rfl rfl (Op1.fieldAddr Try.underlying55 rfl (fun w => ⟨0, Try.sizeOf3 w⟩) fapi_Step_0 (.tmp rfl)) ?_
     refine WL.run rfl rfl rfl rfl hb21 rfl rfl (Op1.load ty3 (.tmp rfl)) ?_
     refine WL.run rfl rfl rfl rfl hb21 rfl rfl (Op1.gtI (.tmp rfl) .i64) ?_
     refine WL.op rfl (.pickF (.tmp rfl) hb21 (.tmp rfl)) ?_
     refine WL.mv rfl rfl ?_
     rcases bcases (decide ((7 : Int) < e.Kind)) with hb24 | hb24
     ·have hp25 := of_decide_eq_true hb24
      rw [if_pos hp25] at hm
      iterate 4 refine WL.pass rfl rfl rfl rfl hb24 rfl rfl ?_
      refine WL.op rfl (.pickT (.tmp rfl) hb24 .bool) ?_
      refine WL.ns ?_
      refine W.condT (.tmp rfl) ?_
      refine W.sr ?_
      refine WL.op rfl (.assign .bool) ?_
      refine WL.ns ?_
      have hr26 := Option.some.inj hm
      clear hm
      subst hr26
      have hm := hk3
      try dsimp only at hm
      cases hm
      exact W.ret1 () rfl (.tmp rfl) trivial
     ·have hp25 := of_decide_eq_false hb24
      rw [if_neg hp25] at hm
      refine WL.run rfl rfl rfl rfl hb24 rfl rfl (Op1.fieldAddr Try.underlying55 rfl (fun w => ⟨0, Try.sizeOf9 w⟩) fapi_Step_1 (.tmp rfl)) ?_
      refine WL.run rfl rfl rfl rfl hb24 rfl rfl (Op1.load ty9 (.tmp rfl)) ?_
      obtain ⟨valid, hv27, hm⟩ := bind_some hm
      refine WL.run rfl rfl rfl rfl hb24 rfl rfl (Op1.call Try.call47 (label_Valid_spec _ _ _ hv27) ⟨(.tmp rfl), trivial⟩) ?_
      refine WL.run rfl rfl rfl rfl hb24 rfl rfl (Op1.notB (.tmp rfl)) ?_
      refine WL.op rfl (.pickF (.tmp rfl) hb24 (.tmp rfl)) ?_
      refine WL.ns ?_
      refine W.cond (.tmp rfl) (fun hc28 => ?_) (fun hc28 => ?_)
      ·have hp29 := not_pos hc28
       rw [if_pos hp29] at hm
       refine W.sr ?_
       refine WL.op rfl (.assign .bool) ?_
       refine WL.ns ?_
       have hr30 := Option.some.inj hm
       clear hm
       subst hr30
       have hm := hk3
       try dsimp only at hm
       cases hm
       exact W.ret1 () rfl (.tmp rfl) trivial
      ·have hp29 := not_neg hc28
       rw [if_neg hp29] at hm
       refine W.skip ?_
       refine WN.block ?_
       refine WN.seq ?_
       refine W.region ?_
       refine WL.op rfl (.addI (.tmp rfl) .i64 (range_inR hi5 hp10 hlen6)) ?_
       refine WL.mv rfl rfl ?_
       refine WL.nil ?_
       exact WN.again es.length (i + 1, pre ++ [e], es, ()) (range_lt hn7) ⟨rfl, range_step hxs4, range_idx hi5, hm⟩ ⟨Ent.q rfl, Ent.q rfl, Ent.q rfl, Ent.q rfl, trivial⟩ trivial
  ·have hm := hs14
   clear hs14
   refine W.region ?_
   refine WL.mv rfl rfl ?_
   refine WL.op rfl (.eqI (.tmp rfl) .i64) ?_
   refine WL.mv rfl rfl ?_
   rcases bcases (decide (i = (0 : Int))) with hb16 | hb16
   ·have hp17 := of_decide_eq_true hb16
    rw [if_pos hp17] at hm
    refine WL.run rfl rfl rfl rfl hb16 rfl rfl (Op1.load ty55 (.tmp rfl)) ?_
    obtain ⟨book, hv18, hm⟩ := bind_some hm
    refine WL.run rfl rfl rfl rfl hb16 rfl rfl (Op1.call Try.call97 (address_book_spec _ _ hv18) ⟨(.tmp rfl), trivial⟩) ?_
    refine WL.op rfl (.pickT (.tmp rfl) hb16 (.tmp rfl)) ?_
    refine WL.nil ?_
    exact WN.meet book (Option.some.inj hm) ⟨Ent.q rfl, Ent.q rfl, Ent.q rfl, Ent.q rfl, Ent.q rfl, Ent.q rfl, trivial⟩ trivial
   ·have hp17 := of_decide_eq_false hb16
    rw [if_neg hp17] at hm
    iterate 2 refine WL.pass rfl rfl rfl rfl hb16 rfl rfl ?_
    refine WL.op rfl (.pickF (.tmp rfl) hb16 .bool) ?_
    refine WL.nil ?_
    exact WN.meet false (Option.some.inj hm) ⟨Ent.q rfl, Ent.q rfl, Ent.q rfl, Ent.q rfl, Ent.q rfl, Ent.q rfl, trivial⟩ trivial
 ·have hrest12 := range_end hxs4 hi5 (of_decide_eq_false hc9)
  subst hrest12
  rw [M.address_Valid_loop1.eq_1] at hm
  refine W.exit rfl ?_
  have hr32 := Option.some.inj hm
  clear hm
  subst hr32
  have hm := hk3
  try dsimp only at hm
  refine WN.seq ?_
  refine W.sr ?_
  refine WL.mv rfl rfl ?_
  refine WL.op rfl (.lenL Try.underlying28 (.tmp rfl)) ?_
  refine WL.op rfl (.leI (.tmp rfl) .i64) ?_
  refine WL.gv rfl rfl ?_
  refine WL.ns ?_
  cases hm
  exact W.ret1 () rfl (.tmp rfl) trivial

theorem address_called_spec (u : api_Unit) (s0_ : api_Step) (r : Bool) (hm : M.address_called u s0_ = some r) : FSpec Try.prog 100 [(tapi_Unit.is u), (tapi_Step.is s0_)] (tB.is r) := by
 unfold M.address_called at hm
 refine FSpec.of Try.func100 rfl rfl rfl (fun g0 => ?_)
 refine W.sr ?_
 refine WL.op rfl (.box (.tmp rfl)) ?_
 refine WL.op rfl (.box (.tmp rfl)) ?_
 refine WL.op rfl (.assign .bool) ?_
 refine WL.nr ?_
 refine WL.op rfl (.fieldAddr Try.underlying27 rfl (fun w => ⟨0, Try.sizeOf3 w⟩) fapi_Unit_1 (.tmp rfl)) ?_
 refine WL.op rfl (.load ty3 (.tmp rfl)) ?_
 refine WL.op rfl (.fieldAddr Try.underlying55 rfl (fun w => ⟨0, Try.sizeOf3 w⟩) fapi_Step_0 (.tmp rfl)) ?_
 refine WL.op rfl (.load ty3 (.tmp rfl)) ?_
 refine WL.op rfl (.eqI (.tmp rfl) (.tmp rfl)) ?_
 refine WL.mv rfl rfl ?_
 rcases bcases (decide (u.Kind = s0_.Kind)) with hb1 | hb1
 ·have hp2 := of_decide_eq_true hb1
  rw [if_pos hp2] at hm
  refine WL.run rfl rfl rfl rfl hb1 rfl rfl (Op1.fieldAddr Try.underlying27 rfl (fun w => ⟨0, Try.sizeOf9 w⟩) fapi_Unit_2 (.tmp rfl)) ?_
  refine WL.run rfl rfl rfl rfl hb1 rfl rfl (Op1.load ty9 (.tmp rfl)) ?_
  refine WL.run rfl rfl rfl rfl hb1 rfl rfl (Op1.fieldAddr Try.underlying55 rfl (fun w => ⟨0, Try.sizeOf9 w⟩) fapi_Step_1 (.tmp rfl)) ?_
  refine WL.run rfl rfl rfl rfl hb1 rfl rfl (Op1.load ty9 (.tmp rfl)) ?_
  refine WL.run rfl rfl rfl rfl hb1 rfl rfl (Op1.eqS (.tmp rfl) (.tmp rfl)) ?_
  refine WL.op rfl (.pickT (.tmp rfl) hb1 (.tmp rfl)) ?_
  refine WL.gv rfl rfl ?_
  refine WL.ns ?_
  cases hm
  exact W.ret1 () rfl (.tmp rfl) trivial
 ·have hp2 := of_decide_eq_false hb1
  rw [if_neg hp2] at hm
  iterate 5 refine WL.pass rfl rfl rfl rfl hb1 rfl rfl ?_
  refine WL.op rfl (.pickF (.tmp rfl) hb1 .bool) ?_
  refine WL.gv rfl rfl ?_
  refine WL.ns ?_
  cases hm
  exact W.ret1 () rfl (.tmp rfl) trivial

theorem address_found_1_spec (x : api_Unit) (c : List api_Step) (c1 : List api_Unit) (b : Nat) (k : Tok) (r : List api_Unit) (hm : M.address_found_1 x c c1 = some r) : FSpecR Try.prog 99 [(tapi_Unit.is x), ((tL tapi_Step).ptr c), (Bp b 0)] [(2, (Bx 1 false 25 (tO tapi_Unit k c1) b)), (1000002, Dec.Own tapi_Unit 27 k c1.length)] (fun kx : Tok => (Asn.eq (.tuple #[]))) (fun kx : Tok => [(2, (Bx 1 false 25 (tO tapi_Unit kx r) b)), (1000002, Dec.Own tapi_Unit 27 kx r.length)]) := by
 unfold M.address_found_1 at hm
 refine FSpecR.of Try.func99 rfl rfl rfl (fun g0 => ?_)
 refine W.sr ?_
 refine WL.op rfl (.box (.tmp rfl)) ?_
 refine WL.ns ?_
 refine W.seq ?_
 obtain ⟨v, hv1, hm⟩ := bind_some hm
 obtain ⟨called, hv2, hm⟩ := bind_some hm
 refine W.draw [.c (tapi_Unit.is x), .c ((tL tapi_Step).is c), .c (tapi_Step.ptr v), .c (tapi_Step.is v), .c (tB.is called)] [([], [3]), ([], [1]), ([1], []), ([2], []), ([0, 3], [])] Try.mixed rfl rfl rfl rfl ⟨.inr (Op1.load ty27 (.tmp rfl)), .inr (Op1.load ty28 (.tmp rfl)), .inr (Op1.idx hv1 Try.underlying28 Try.sizeOf55 (.tmp rfl) .i64), .inr (Op1.load ty55 (.tmp rfl)), .inr (Op1.call Try.call100 (address_called_spec _ _ _ hv2) ⟨(.tmp rfl), (.tmp rfl), trivial⟩), trivial⟩ ?_
 refine WN.seq ?_
 refine W.cond (.tmp rfl) (fun hc3 => ?_) (fun hc3 => ?_)
 ·have hp4 := hc3
  rw [if_pos hp4] at hm
  obtain ⟨out, hv5, hm⟩ := bind_some hm
  refine W.weakR (res' := [(1000002, Dec.Own tapi_Unit 27 k c1.length), (2, (Bx 1 false 25 (tO tapi_Unit k c1) b))]) ⟨rfl, rfl, ⟨rfl, rfl, trivial⟩⟩ ?_
  refine W.drawS [.c (tO tapi_Unit k c1), .c (tapi_Unit.is x), .c ((tI .i64).is (c1.length : Int)), .c ((tL tapi_Unit).is ([(⟨(⟨(0 : Int), (0 : Int), (0 : Int)⟩ : api_Id), (0 : Int), ([] : Str), ([] : List api_Word), ([] : List api_Word), ([] : List api_Unit)⟩ : api_Unit)])), .f (fun cv => (rawS (cv 0) (c1.length + 1))), .f (fun cv => (Bp (bk (cv 0)) (c1.length * tapi_Unit.size))), .c Asn.any, .c Asn.any] [([], [2]), ([], [3]), ([0], []), ([], []), ([0, 3], []), ([2, 4], []), ([1, 5], []), ([4], [2])] [4, 6, 7] [[], [], [], [], [true], [true], [], []] (fun mk cv => match mk with | [false, false, false] => [(1000002, Dec.Own tapi_Unit 27 k c1.length), (2, (Bx 1 false 25 (tO tapi_Unit k c1) b))] | [true, false, false] => [(1000002, Resv tapi_Unit 27 (cv 0) c1), (2, (Bx 1 false 25 (tO tapi_Unit k c1) b))] | [true, true, false] => [(1000002, Grown tapi_Unit 27 (cv 0) out), (2, (Bx 1 false 25 (tO tapi_Unit k c1) b))] | [true, false, true] => [(1000002, Resv tapi_Unit 27 (cv 0) c1), (2, (Bx 1 false 25 (rawS (cv 0) (c1.length + 1)) b))] | _ => [(1000002, Grown tapi_Unit 27 (cv 0) out), (2, (Bx 1 false 25 (rawS (cv 0) (c1.length + 1)) b))]) (fun _ => none) Try.mixed rfl rfl rfl rfl rfl ⟨fun _ _ _ _ => rfl, ⟨fun _ _ _ _ => rfl, ⟨fun _ _ _ _ => rfl, ⟨fun _ _ _ _ => rfl, ⟨fun m hm c t => by simp only [DA.at, upd_dep (r := [true]) (j := 0) rfl hm], ⟨fun m hm c t => by simp only [DA.at, upd_dep (r := [true]) (j := 0) rfl hm], ⟨fun _ _ _ _ => rfl, ⟨fun _ _ _ _ => rfl, trivial⟩⟩⟩⟩⟩⟩⟩⟩ rfl ⟨.inr ⟨fun cv => [(2, (Bx 1 false 25 (tO tapi_Unit k c1) b))], ⟨fun _ _ => ⟨rfl, rfl, trivial⟩, fun hw => absurd hw (by decide), fun hw => absurd hw (by decide), fun hw => absurd hw (by decide), fun hw => absurd hw (by decide), fun hw => absurd hw (by decide), fun hw => absurd hw (by decide), fun hw => absurd hw (by decide), trivial⟩, fun cv => Op1.loadB 2 Try.isAgg25 Try.sizeOf25 rfl (.tmp rfl)⟩, ⟨.inr ⟨fun cv => [], (AllIn.all (fun _ _ _ => trivial) _), fun cv => Op1.load ty27 (.tmp rfl)⟩, ⟨.inr ⟨fun cv => [], (AllIn.all (fun _ _ _ => trivial) _), fun cv => Op1.lenL Try.underlying25 (Opd.own (.tmp rfl))⟩, ⟨.inr ⟨fun cv => [], (AllIn.all (fun _ _ _ => trivial) _), fun cv => Op1.buildSlice (n := 1) (ys := [(0, (⟨(⟨(0 : Int), (0 : Int), (0 : Int)⟩ : api_Id), (0 : Int), ([] : Str), ([] : List api_Word), ([] : List api_Word), ([] : List api_Unit)⟩ : api_Unit))]) (z := zapi_Unit) (xs := [(⟨(⟨(0 : Int), (0 : Int), (0 : Int)⟩ : api_Id), (0 : Int), ([] : Str), ([] : List api_Word), ([] : List api_Word), ([] : List api_Unit)⟩ : api_Unit)]) Try.underlying25 el27 ze27 ⟨rfl, (fun _ _ _ => ⟨_, (rapi_Unit.into.rep _ _ _ ⟨_, _, rfl, ⟨_, _, rfl, ⟨rfl, inR64.2 ⟨by decide, by decide⟩⟩, ⟨_, _, rfl, ⟨rfl, inR64.2 ⟨by decide, by decide⟩⟩, ⟨rfl, inR64.2 ⟨by decide, by decide⟩⟩⟩⟩, ⟨_, _, rfl, ⟨rfl, inR64.2 ⟨by decide, by decide⟩⟩, ⟨_, _, rfl, ⟨rfl, by decide⟩, ⟨_, _, rfl, ⟨none, 0, rfl, Nat.le_refl _, Nat.zero_le _, fun _ => rfl, rfl⟩, ⟨_, _, rfl, ⟨none, 0, rfl, Nat.le_refl _, Nat.zero_le _, fun _ => rfl, rfl⟩, ⟨none, 0, rfl, Nat.le_refl _, Nat.zero_le _, fun _ => rfl, rfl⟩⟩⟩⟩⟩⟩), rfl⟩), trivial⟩ (by simp) (by decide) rfl⟩, ⟨.inl rfl, ⟨.inr ⟨fun cv => [], (AllIn.all (fun _ _ _ => trivial) _), fun cv => Op1.rawIdx (t := tapi_Unit) Try.underlying25 Try.sizeOf27 (.tmp rfl) (.tmp rfl)⟩, ⟨.inl rfl, ⟨.inl rfl, trivial⟩⟩⟩⟩⟩⟩⟩⟩ ⟨⟨_, _, _, rfl, rfl, rfl, rfl, ⟨fun _ _ => ⟨[1000002], (fun cv => [(1000002, Resv tapi_Unit 27 (cv 0) c1)]), (fun cv => ⟨rfl, rfl, ⟨rfl, rfl, trivial⟩⟩), (fun _ _ => rfl), fun cv => OpR.appendZC (key := 1000002) hv5 Try.underlying25 el27 (.tmp rfl) (.tmp rfl) rfl⟩, fun h _ => absurd h (by decide), fun _ h => absurd h (by decide), fun h _ => absurd h (by decide), fun _ h => absurd h (by decide), fun h _ => absurd h (by decide), fun _ h => absurd h (by decide), fun h _ => absurd h (by decide), trivial⟩⟩, ⟨⟨_, _, _, rfl, rfl, rfl, rfl, ⟨fun _ h => absurd h (by decide), fun _ _ => ⟨[1000002], (fun cv => [(1000002, Grown tapi_Unit 27 (cv 0) out)]), (fun cv => ⟨rfl, rfl, ⟨rfl, rfl, trivial⟩⟩), (fun _ _ => rfl), fun cv => OpR.viaU (OpR.storeEl (k := (cv 0)) (key := 1000002) hv5 ty27 (.tmp rfl) (.tmp rfl) rfl)⟩, fun h _ => absurd h (by decide), fun h _ => absurd h (by decide), fun _ h => absurd h (by decide), fun _ _ => ⟨[1000002], (fun cv => [(1000002, Grown tapi_Unit 27 (cv 0) out)]), (fun cv => ⟨rfl, rfl, ⟨rfl, rfl, trivial⟩⟩), (fun _ _ => rfl), fun cv => OpR.viaU (OpR.storeEl (k := (cv 0)) (key := 1000002) hv5 ty27 (.tmp rfl) (.tmp rfl) rfl)⟩, fun h _ => absurd h (by decide), fun h _ => absurd h (by decide), trivial⟩⟩, ⟨⟨_, _, _, rfl, rfl, rfl, rfl, ⟨fun _ h => absurd h (by decide), fun _ _ => ⟨[2], (fun cv => [(2, (Bx 1 false 25 (rawS (cv 0) (c1.length + 1)) b))]), (fun cv => ⟨rfl, rfl, ⟨rfl, rfl, trivial⟩⟩), (fun _ _ => rfl), fun cv => OpR.viaU (OpR.storeB (b := b) 2 Try.sizeOf25 (Cellable.raw (cv 0) _) rfl (.tmp rfl) (.tmp rfl))⟩, fun _ h => absurd h (by decide), fun _ _ => ⟨[2], (fun cv => [(2, (Bx 1 false 25 (rawS (cv 0) (c1.length + 1)) b))]), (fun cv => ⟨rfl, rfl, ⟨rfl, rfl, trivial⟩⟩), (fun _ _ => rfl), fun cv => OpR.viaU (OpR.storeB (b := b) 2 Try.sizeOf25 (Cellable.raw (cv 0) _) rfl (.tmp rfl) (.tmp rfl))⟩, fun h _ => absurd h (by decide), fun h _ => absurd h (by decide), fun h _ => absurd h (by decide), fun h _ => absurd h (by decide), trivial⟩⟩, trivial⟩⟩⟩ (fun cv => ?_)
  refine WN.grown 2 1000002 (by decide) rfl rfl (appC_len hv5) ?_
  have hr := Option.some.inj hm
  clear hm
  subst hr
  exact WN.fin (cv 0) rfl (fun _ => rfl) ⟨rfl, rfl, ⟨rfl, rfl, trivial⟩⟩
 ·have hp4 := ne_of_false hc3
  rw [if_neg hp4] at hm
  refine W.skip ?_
  have hr := Option.some.inj hm
  clear hm
  subst hr
  exact WN.fin k rfl (fun _ => rfl) ⟨rfl, rfl, ⟨rfl, rfl, trivial⟩⟩

theorem address_each_i0_spec : ∀ (n : Nat) (u : api_Unit) (c : List api_Step) (c1 : List api_Unit) (b : Nat) (k : Tok) (r : List api_Unit), M.address_each_i0 n u c c1 = some r → FSpecR Try.prog 98 [(tapi_Unit.is u), (cloA 99 [((tL tapi_Step).ptr c), (Bp b 0)])] [(500101, (Bx 1 false 25 (tO tapi_Unit k c1) b)), (1500101, Dec.Own tapi_Unit 27 k c1.length)] (fun kx : Tok => (Asn.eq (.tuple #[]))) (fun kx : Tok => [(500101, (Bx 1 false 25 (tO tapi_Unit kx r) b)), (1500101, Dec.Own tapi_Unit 27 kx r.length)]) := by
 intro n
 induction n with
 | zero => intro u c c1 b k r hm; cases hm
 | succ n ih =>
  intro u c c1 b k r hm
  rw [M.address_each_i0.eq_2] at hm
  refine FSpecR.of Try.func98 rfl rfl rfl (fun g0 => ?_)
  refine W.sr ?_
  refine WL.op rfl (.box (.tmp rfl)) ?_
  refine WL.nr ?_
  refine WL.mv rfl rfl ?_
  refine WL.op rfl (.load ty27 (.tmp rfl)) ?_
  obtain ⟨w, hv1, hm⟩ := bind_some hm
  refine WL.weakR (res' := [(500101, (Bx 1 false 25 (tO tapi_Unit k c1) b)), (1500101, Dec.Own tapi_Unit 27 k c1.length)]) ⟨rfl, rfl, ⟨rfl, rfl, trivial⟩⟩ ?_
  refine WL.opR rfl (OpR.callClo (us := [500101, 1500101]) (A := fun kx : Tok => (Asn.eq (.tuple #[]))) (As := [tapi_Unit.is u]) Try.call99 (.tmp rfl) (FSpecR.keys (rin' := [(500101, (Bx 1 false 25 (tO tapi_Unit k c1) b)), (1500101, Dec.Own tapi_Unit 27 k c1.length)]) (out' := fun kx : Tok => [(500101, (Bx 1 false 25 (tO tapi_Unit kx w) b)), (1500101, Dec.Own tapi_Unit 27 kx w.length)]) (address_found_1_spec _ _ _ _ _ _ hv1) rfl (fun _ => rfl)) rfl ⟨(.tmp rfl), trivial⟩) (fun k1 => ?_)
  refine WL.nr ?_
  refine WL.op rfl (.fieldAddr Try.underlying27 rfl (fun w => ⟨0, Try.sizeOf25 w⟩) fapi_Unit_5 (.tmp rfl)) ?_
  refine WL.op rfl (.load ty25 (.tmp rfl)) ?_
  refine WL.op rfl (.lenL Try.underlying25 (.tmp rfl)) ?_
  refine WL.op rfl (.move .i64) ?_
  refine WL.ns ?_
  refine W.block ?_
  obtain ⟨s2, hs3, hk4⟩ := bind_some hm
  clear hm
  refine W.loop (fun m (s : Int × List api_Unit × List api_Unit × (((List api_Unit)) × Tok)) => m = s.2.2.1.length ∧ u.Kids = s.2.1 ++ s.2.2.1 ∧ s.1 = (s.2.1.length : Int) ∧ M.address_each_i0_loop1 c (M.address_each_i0 n) s.2.2.1 s.2.2.2.1 = some s2) (fun s => [(12, ((tI .i64).is s.1)), (1, (cloA 99 [((tL tapi_Step).ptr c), (Bp b 0)])), (10, ((tL tapi_Unit).is u.Kids)), (11, ((tI .i64).is (u.Kids.length : Int)))]) (fun s => [(1500101, Dec.Own tapi_Unit 27 s.2.2.2.2 s.2.2.2.1.length), (500101, (Bx 1 false 25 (tO tapi_Unit s.2.2.2.2 s.2.2.2.1) b))]) u.Kids.length ((0 : Int), [], u.Kids, (w, k1)) ⟨rfl, rfl, rfl, hs3⟩ ⟨Ent.q rfl, Ent.q rfl, Ent.q rfl, Ent.q rfl, trivial⟩ ⟨rfl, rfl, ⟨rfl, rfl, trivial⟩⟩ ?_
  rintro m ⟨i, pre, rest1, ⟨v, k2⟩⟩ ⟨hn8, hxs5, hi6, hm⟩
  try dsimp only at hn8 hxs5 hi6 hm
  change W _ _ _ _ _ _ _ [(12, ((tI .i64).is i)), (1, (cloA 99 [((tL tapi_Step).ptr c), (Bp b 0)])), (10, ((tL tapi_Unit).is u.Kids)), (11, ((tI .i64).is (u.Kids.length : Int)))] [(1500101, Dec.Own tapi_Unit 27 k2 v.length), (500101, (Bx 1 false 25 (tO tapi_Unit k2 v) b))]
  refine W.lenL (s := 10) (.tmp rfl) fun hlen7 => ?_
  refine W.sr ?_
  refine WL.op rfl (.ltI (.tmp rfl) (.tmp rfl)) ?_
  refine WL.ns ?_
  refine W.seq ?_
  refine W.cond (.tmp rfl) (fun hc10 => ?_) (fun hc10 => ?_)
  ·have hp11 := of_decide_eq_true hc10
   obtain ⟨e, es, hrest13⟩ := range_more hxs5 hi6 hp11
   subst hrest13
   rw [M.address_each_i0_loop1.eq_2] at hm
   refine W.skip ?_
   refine WN.seq ?_
   refine W.seq ?_
   refine W.block ?_
   refine W.sr ?_
   refine WL.op rfl (.idxPre hxs5 hi6 Try.underlying25 Try.sizeOf27 (.tmp rfl) (.tmp rfl)) ?_
   refine WL.op rfl (.load ty27 (.tmp rfl)) ?_
   refine WL.opR rfl (OpR.alloc 5 ze27) (fun b1 => ?_)
   refine WL.opU (OpR.storeB (b := b1) 5 Try.sizeOf27 (Cellable.is tapi_Unit e) rfl (.tmp rfl) (.tmp rfl)) (fun _ => ?_)
   refine WL.sealed (t := tapi_Unit) (u := e) 5 5 rfl rfl ?_
   refine WL.nr1 ?_
   refine WL.op rfl (.load ty27 (.tmp rfl)) ?_
   refine WL.mv rfl rfl ?_
   obtain ⟨w1, hv14, hm⟩ := bind_some hm
   refine WL.weakR (res' := [(500101, (Bx 1 false 25 (tO tapi_Unit k2 v) b)), (1500101, Dec.Own tapi_Unit 27 k2 v.length)]) ⟨rfl, rfl, ⟨rfl, rfl, trivial⟩⟩ ?_
   refine WL.opR rfl (OpR.call (us := [500101, 1500101]) (A := fun kx : Tok => (Asn.eq (.tuple #[]))) Try.call98 (FSpecR.keys (rin' := [(500101, (Bx 1 false 25 (tO tapi_Unit k2 v) b)), (1500101, Dec.Own tapi_Unit 27 k2 v.length)]) (out' := fun kx : Tok => [(500101, (Bx 1 false 25 (tO tapi_Unit kx w1) b)), (1500101, Dec.Own tapi_Unit 27 kx w1.length)]) (ih _ _ _ _ _ _ hv14) rfl (fun _ => rfl)) rfl ⟨(.tmp rfl), (.tmp rfl), trivial⟩) (fun k3 => ?_)
   refine WL.nil ?_
   refine WN.block ?_
   refine WN.seq ?_
   refine W.region ?_
   refine WL.op rfl (.addI (.tmp rfl) .i64 (range_inR hi6 hp11 hlen7)) ?_
   refine WL.mv rfl rfl ?_
   refine WL.nil ?_
   exact WN.again es.length (i + 1, pre ++ [e], es, (w1, k3)) (range_lt hn8) ⟨rfl, range_step hxs5, range_idx hi6, hm⟩ ⟨Ent.q rfl, Ent.q rfl, Ent.q rfl, Ent.q rfl, trivial⟩ ⟨rfl, rfl, ⟨rfl, rfl, trivial⟩⟩
  ·have hrest13 := range_end hxs5 hi6 (of_decide_eq_false hc10)
   subst hrest13
   rw [M.address_each_i0_loop1.eq_1] at hm
   refine W.exit rfl ?_
   have hr15 := Option.some.inj hm
   clear hm
   subst hr15
   have hm := hk4
   try dsimp only at hm
   have hr := Option.some.inj hm
   clear hm
   subst hr
   exact WN.fin k2 rfl (fun _ => rfl) ⟨rfl, rfl, ⟨rfl, rfl, trivial⟩⟩

theorem address_found_spec (n : Nat) (u : api_Unit) (p : List api_Step) (r : (List api_Unit)) (hm : M.address_found n u p = some r) : FSpec Try.prog 92 [(tapi_Unit.is u), ((tL tapi_Step).is p)] ((tL tapi_Unit).is r) := by
 unfold M.address_found at hm
 refine FSpec.of Try.func92 rfl rfl rfl (fun g0 => ?_)
 refine W.sr ?_
 refine WL.op rfl (.box (.tmp rfl)) ?_
 refine WL.op rfl (.box (.tmp rfl)) ?_
 refine WL.op rfl (.assign (.nil (t := tapi_Unit))) ?_
 refine WL.ns ?_
 refine W.seq ?_
 refine W.sr ?_
 refine WL.op rfl (.load ty28 (.tmp rfl)) ?_
 obtain ⟨valid, hv1, hm⟩ := bind_some hm
 refine WL.op rfl (.call Try.call96 (address_Valid_spec _ _ _ hv1) ⟨(.tmp rfl), trivial⟩) ?_
 refine WL.op rfl (.notB (.tmp rfl)) ?_
 refine WL.ns ?_
 refine W.cond (.tmp rfl) (fun hc2 => ?_) (fun hc2 => ?_)
 ·have hp3 := not_pos hc2
  rw [if_pos hp3] at hm
  refine W.sr ?_
  refine WL.op rfl (.assign (.nil (t := tapi_Unit))) ?_
  refine WL.ns ?_
  cases hm
  exact W.ret1 () rfl (.tmp rfl) trivial
 ·have hp3 := not_neg hc2
  rw [if_neg hp3] at hm
  refine W.skip ?_
  refine WN.seq ?_
  refine W.sr ?_
  refine WL.addNil (t := tapi_Unit) (E := 27) 1000005 ?_
  refine WL.opR rfl (OpR.allocO (t := tapi_Unit) 5 Try.zeroValue25) (fun b => ?_)
  refine WL.ns ?_
  obtain ⟨s4, hs5, hk6⟩ := bind_some hm
  clear hm
  refine W.join (fun s : (List api_Unit) => (Sum.inl s : ((List api_Unit)) ⊕ ((List api_Unit))) = s4) (fun s => [(3, ((tL tapi_Step).ptr p)), (5, (Bp b 0))]) (fun s => [(5, (Bx 1 false 25 ((tL tapi_Unit).is s) b))]) ?_ ?_
  ·rintro at0_ hj59
   try dsimp only at hj59
   subst hj59
   have hm := hk6
   clear hk6
   try dsimp only at hm
   change W _ _ _ _ _ _ _ [(3, ((tL tapi_Step).ptr p)), (5, (Bp b 0))] [(5, (Bx 1 false 25 ((tL tapi_Unit).is at0_) b))]
   refine W.seq ?_
   refine W.sr ?_
   refine WL.op rfl (.load ty28 (.tmp rfl)) ?_
   obtain ⟨v1, hv15, hm⟩ := bind_some hm
   refine WL.op rfl (.slcLo hv15 Try.underlying28 Try.sizeOf55 (.tmp rfl) .i64) ?_
   refine WL.op rfl (.lenL Try.underlying28 (.tmp rfl)) ?_
   refine WL.op rfl (.move .i64) ?_
   refine WL.ns ?_
   refine W.block ?_
   obtain ⟨s16, hs17, hk18⟩ := bind_some hm
   clear hm
   refine W.loop (fun m (s : Int × List api_Step × List api_Step × ((List api_Unit))) => m = s.2.2.1.length ∧ v1 = s.2.1 ++ s.2.2.1 ∧ s.1 = (s.2.1.length : Int) ∧ M.address_found_loop1 s.2.2.1 s.2.2.2 = some s16) (fun s => [(35, ((tI .i64).is s.1)), (5, (Bp b 0)), (33, ((tL tapi_Step).is v1)), (34, ((tI .i64).is (v1.length : Int)))]) (fun s => [(5, (Bx 1 false 25 ((tL tapi_Unit).is s.2.2.2) b))]) v1.length ((0 : Int), [], v1, at0_) ⟨rfl, rfl, rfl, hs17⟩ ⟨Ent.q rfl, Ent.q rfl, Ent.q rfl, Ent.q rfl, trivial⟩ ⟨rfl, rfl, trivial⟩ ?_
   rintro m ⟨i, pre, rest5, at0_2⟩ ⟨hn22, hxs19, hi20, hm⟩
   try dsimp only at hn22 hxs19 hi20 hm
   change W _ _ _ _ _ _ _ [(35, ((tI .i64).is i)), (5, (Bp b 0)), (33, ((tL tapi_Step).is v1)), (34, ((tI .i64).is (v1.length : Int)))] [(5, (Bx 1 false 25 ((tL tapi_Unit).is at0_2) b))]
   refine W.lenL (s := 33) (.tmp rfl) fun hlen21 => ?_
   refine W.sr ?_
   refine WL.op rfl (.ltI (.tmp rfl) (.tmp rfl)) ?_
   refine WL.ns ?_
   refine W.seq ?_
   refine W.cond (.tmp rfl) (fun hc24 => ?_) (fun hc24 => ?_)
   ·have hp25 := of_decide_eq_true hc24
    obtain ⟨e, es, hrest27⟩ := range_more hxs19 hi20 hp25
    subst hrest27
    rw [M.address_found_loop1.eq_2] at hm
    refine W.skip ?_
    refine WN.seq ?_
    refine W.seq ?_
    refine W.block ?_
    refine W.sr ?_
    refine WL.op rfl (.idxPre hxs19 hi20 Try.underlying28 Try.sizeOf55 (.tmp rfl) (.tmp rfl)) ?_
    refine WL.op rfl (.load ty55 (.tmp rfl)) ?_
    refine WL.opR rfl (OpR.alloc 7 ze55) (fun b1 => ?_)
    refine WL.opU (OpR.storeB (b := b1) 7 Try.sizeOf55 (Cellable.is tapi_Step e) rfl (.tmp rfl) (.tmp rfl)) (fun _ => ?_)
    refine WL.sealed (t := tapi_Step) (u := e) 7 7 rfl rfl ?_
    refine WL.nr ?_
    refine WL.addNil (t := tapi_Unit) (E := 27) 8 ?_
    refine WL.op rfl (.assign (Opd.nilO (t := tapi_Unit))) ?_
    refine WL.ns ?_
    refine W.seq ?_
    refine W.sr ?_
    refine WL.op rfl (.loadB 5 Try.isAgg25 Try.sizeOf25 rfl (.tmp rfl)) ?_
    refine WL.op rfl (.lenL Try.underlying25 (.tmp rfl)) ?_
    refine WL.op rfl (.move .i64) ?_
    refine WL.ns ?_
    refine W.block ?_
    obtain ⟨s28, hs29, hk30⟩ := bind_some hm
    clear hm
    refine W.loop (fun m (s : Int × List api_Unit × List api_Unit × (((List api_Unit)) × Tok)) => m = s.2.2.1.length ∧ at0_2 = s.2.1 ++ s.2.2.1 ∧ s.1 = (s.2.1.length : Int) ∧ M.address_found_loop2 e s.2.2.1 s.2.2.2.1 = some s28) (fun s => [(41, ((tI .i64).is s.1)), (8, (tO tapi_Unit s.2.2.2.2 s.2.2.2.1)), (5, (Bp b 0)), (7, (tapi_Step.ptr e)), (33, ((tL tapi_Step).is v1)), (34, ((tI .i64).is (v1.length : Int))), (35, ((tI .i64).is i)), (39, ((tL tapi_Unit).is at0_2)), (40, ((tI .i64).is (at0_2.length : Int)))]) (fun s => [(8, Dec.Own tapi_Unit 27 s.2.2.2.2 s.2.2.2.1.length), (5, (Bx 1 false 25 ((tL tapi_Unit).is at0_2) b))]) at0_2.length ((0 : Int), [], at0_2, (([] : List api_Unit), (none : Tok))) ⟨rfl, rfl, rfl, hs29⟩ ⟨Ent.q rfl, Ent.q rfl, Ent.q rfl, Ent.q rfl, Ent.q rfl, Ent.q rfl, Ent.q rfl, Ent.q rfl, Ent.q rfl, trivial⟩ ⟨rfl, rfl, ⟨rfl, rfl, trivial⟩⟩ ?_
    rintro m ⟨i1, pre1, rest4, ⟨next, k2⟩⟩ ⟨hn34, hxs31, hi32, hm⟩
    try dsimp only at hn34 hxs31 hi32 hm
    change W _ _ _ _ _ _ _ [(41, ((tI .i64).is i1)), (8, (tO tapi_Unit k2 next)), (5, (Bp b 0)), (7, (tapi_Step.ptr e)), (33, ((tL tapi_Step).is v1)), (34, ((tI .i64).is (v1.length : Int))), (35, ((tI .i64).is i)), (39, ((tL tapi_Unit).is at0_2)), (40, ((tI .i64).is (at0_2.length : Int)))] [(8, Dec.Own tapi_Unit 27 k2 next.length), (5, (Bx 1 false 25 ((tL tapi_Unit).is at0_2) b))]
    refine W.lenL (s := 39) (.tmp rfl) fun hlen33 => ?_
    refine W.sr ?_
    refine WL.op rfl (.ltI (.tmp rfl) (.tmp rfl)) ?_
    refine WL.ns ?_
    refine W.seq ?_
    refine W.cond (.tmp rfl) (fun hc36 => ?_) (fun hc36 => ?_)
    ·have hp37 := of_decide_eq_true hc36
     obtain ⟨e1, es1, hrest39⟩ := range_more hxs31 hi32 hp37
     subst hrest39
     rw [M.address_found_loop2.eq_2] at hm
     refine W.skip ?_
     refine WN.seq ?_
     refine W.seq ?_
     refine W.block ?_
     refine W.sr ?_
     refine WL.op rfl (.idxPre hxs31 hi32 Try.underlying25 Try.sizeOf27 (.tmp rfl) (.tmp rfl)) ?_
     refine WL.op rfl (.load ty27 (.tmp rfl)) ?_
     refine WL.opR rfl (OpR.alloc 10 ze27) (fun b2 => ?_)
     refine WL.opU (OpR.storeB (b := b2) 10 Try.sizeOf27 (Cellable.is tapi_Unit e1) rfl (.tmp rfl) (.tmp rfl)) (fun _ => ?_)
     refine WL.sealed (t := tapi_Unit) (u := e1) 10 10 rfl rfl ?_
     refine WL.nr ?_
     refine WL.op rfl (.fieldAddr Try.underlying27 rfl (fun w => ⟨0, Try.sizeOf25 w⟩) fapi_Unit_5 (.tmp rfl)) ?_
     refine WL.op rfl (.load ty25 (.tmp rfl)) ?_
     refine WL.op rfl (.lenL Try.underlying25 (.tmp rfl)) ?_
     refine WL.op rfl (.move .i64) ?_
     refine WL.ns ?_
     refine W.block ?_
     obtain ⟨s40, hs41, hk42⟩ := bind_some hm
     clear hm
     refine W.loop (fun m (s : Int × List api_Unit × List api_Unit × (((List api_Unit)) × Tok)) => m = s.2.2.1.length ∧ e1.Kids = s.2.1 ++ s.2.2.1 ∧ s.1 = (s.2.1.length : Int) ∧ M.address_found_loop3 e s.2.2.1 s.2.2.2.1 = some s40) (fun s => [(48, ((tI .i64).is s.1)), (8, (tO tapi_Unit s.2.2.2.2 s.2.2.2.1)), (5, (Bp b 0)), (7, (tapi_Step.ptr e)), (33, ((tL tapi_Step).is v1)), (34, ((tI .i64).is (v1.length : Int))), (35, ((tI .i64).is i)), (39, ((tL tapi_Unit).is at0_2)), (40, ((tI .i64).is (at0_2.length : Int))), (41, ((tI .i64).is i1)), (46, ((tL tapi_Unit).is e1.Kids)), (47, ((tI .i64).is (e1.Kids.length : Int)))]) (fun s => [(8, Dec.Own tapi_Unit 27 s.2.2.2.2 s.2.2.2.1.length), (5, (Bx 1 false 25 ((tL tapi_Unit).is at0_2) b))]) e1.Kids.length ((0 : Int), [], e1.Kids, (next, k2)) ⟨rfl, rfl, rfl, hs41⟩ ⟨Ent.q rfl, Ent.q rfl, Ent.q rfl, Ent.q rfl, Ent.q rfl, Ent.q rfl, Ent.q rfl, Ent.q rfl, Ent.q rfl, Ent.q rfl, Ent.q rfl, Ent.q rfl, trivial⟩ ⟨rfl, rfl, ⟨rfl, rfl, trivial⟩⟩ ?_
     rintro m ⟨i2, pre2, rest3, ⟨next1, k3⟩⟩ ⟨hn46, hxs43, hi44, hm⟩
     try dsimp only at hn46 hxs43 hi44 hm
     change W _ _ _ _ _ _ _ [(48, ((tI .i64).is i2)), (8, (tO tapi_Unit k3 next1)), (5, (Bp b 0)), (7, (tapi_Step.ptr e)), (33, ((tL tapi_Step).is v1)), (34, ((tI .i64).is (v1.length : Int))), (35, ((tI .i64).is i)), (39, ((tL tapi_Unit).is at0_2)), (40, ((tI .i64).is (at0_2.length : Int))), (41, ((tI .i64).is i1)), (46, ((tL tapi_Unit).is e1.Kids)), (47, ((tI .i64).is (e1.Kids.length : Int)))] [(8, Dec.Own tapi_Unit 27 k3 next1.length), (5, (Bx 1 false 25 ((tL tapi_Unit).is at0_2) b))]
     refine W.lenL (s := 46) (.tmp rfl) fun hlen45 => ?_
     refine W.sr ?_
     refine WL.op rfl (.ltI (.tmp rfl) (.tmp rfl)) ?_
     refine WL.ns ?_
     refine W.seq ?_
     refine W.cond (.tmp rfl) (fun hc48 => ?_) (fun hc48 => ?_)
     ·have hp49 := of_decide_eq_true hc48
      obtain ⟨e2, es2, hrest51⟩ := range_more hxs43 hi44 hp49
      subst hrest51
      rw [M.address_found_loop3.eq_2] at hm
      refine W.skip ?_
      refine WN.seq ?_
      refine W.seq ?_
      refine W.block ?_
      refine W.sr ?_
      refine WL.op rfl (.idxPre hxs43 hi44 Try.underlying25 Try.sizeOf27 (.tmp rfl) (.tmp rfl)) ?_
      refine WL.op rfl (.load ty27 (.tmp rfl)) ?_
      refine WL.opR rfl (OpR.alloc 12 ze27) (fun b3 => ?_)
      refine WL.opU (OpR.storeB (b := b3) 12 Try.sizeOf27 (Cellable.is tapi_Unit e2) rfl (.tmp rfl) (.tmp rfl)) (fun _ => ?_)
      refine WL.sealed (t := tapi_Unit) (u := e2) 12 12 rfl rfl ?_
      refine WL.nr ?_
      refine WL.op rfl (.load ty27 (.tmp rfl)) ?_
      refine WL.op rfl (.load ty55 (.tmp rfl)) ?_
      obtain ⟨called, hv52, hm⟩ := bind_some hm
      refine WL.op rfl (.call Try.call100 (address_called_spec _ _ _ hv52) ⟨(.tmp rfl), (.tmp rfl), trivial⟩) ?_
      refine WL.ns ?_
      refine W.cond (.tmp rfl) (fun hc53 => ?_) (fun hc53 => ?_)
      ·have hp54 := hc53
       rw [if_pos hp54] at hm
       refine W.region ?_
       refine WL.mv rfl rfl ?_
       refine WL.op rfl (.load ty27 (.tmp rfl)) ?_
       refine WL.op rfl (.buildSlice (n := 1) (ys := [(0, e2)]) (z := zapi_Unit) (xs := [e2]) Try.underlying25 el27 ze27 ⟨rfl, (.tmp rfl), trivial⟩ (by simp) (by decide) rfl) ?_
       obtain ⟨next2, hv55, hm⟩ := bind_some hm
       refine WL.opR rfl (OpR.appC (key := 8) hv55 Try.underlying25 el27 (.tmp rfl) (.tmp rfl) rfl) (fun k4 => ?_)
       refine WL.gv rfl rfl ?_
       refine WL.nil ?_
       refine WN.block ?_
       refine WN.seq ?_
       refine W.region ?_
       refine WL.op rfl (.addI (.tmp rfl) .i64 (range_inR hi44 hp49 hlen45)) ?_
       refine WL.mv rfl rfl ?_
       refine WL.nil ?_
       exact WN.again es2.length (i2 + 1, pre2 ++ [e2], es2, (next2, k4)) (range_lt hn46) ⟨rfl, range_step hxs43, range_idx hi44, hm⟩ ⟨Ent.q rfl, Ent.q rfl, Ent.q rfl, Ent.q rfl, Ent.q rfl, Ent.q rfl, Ent.q rfl, Ent.q rfl, Ent.q rfl, Ent.q rfl, Ent.q rfl, Ent.q rfl, trivial⟩ ⟨rfl, rfl, ⟨rfl, rfl, trivial⟩⟩
      ·have hp54 := ne_of_false hc53
       rw [if_neg hp54] at hm
       refine W.skip ?_
       refine WN.block ?_
       refine WN.seq ?_
       refine W.region ?_
       refine WL.op rfl (.addI (.tmp rfl) .i64 (range_inR hi44 hp49 hlen45)) ?_
       refine WL.mv rfl rfl ?_
       refine WL.nil ?_
       exact WN.again es2.length (i2 + 1, pre2 ++ [e2], es2, (next1, k3)) (range_lt hn46) ⟨rfl, range_step hxs43, range_idx hi44, hm⟩ ⟨Ent.q rfl, Ent.q rfl, Ent.q rfl, Ent.q rfl, Ent.q rfl, Ent.q rfl, Ent.q rfl, Ent.q rfl, Ent.q rfl, Ent.q rfl, Ent.q rfl, Ent.q rfl, trivial⟩ ⟨rfl, rfl, ⟨rfl, rfl, trivial⟩⟩
     ·have hrest51 := range_end hxs43 hi44 (of_decide_eq_false hc48)
      subst hrest51
      rw [M.address_found_loop3.eq_1] at hm
      refine W.exit rfl ?_
      have hr56 := Option.some.inj hm
      clear hm
      subst hr56
      have hm := hk42
      try dsimp only at hm
      refine WN.block ?_
      refine WN.seq ?_
      refine W.region ?_
      refine WL.op rfl (.addI (.tmp rfl) .i64 (range_inR hi32 hp37 hlen33)) ?_
      refine WL.mv rfl rfl ?_
      refine WL.nil ?_
      exact WN.again es1.length (i1 + 1, pre1 ++ [e1], es1, (next1, k3)) (range_lt hn34) ⟨rfl, range_step hxs31, range_idx hi32, hm⟩ ⟨Ent.q rfl, Ent.q rfl, Ent.q rfl, Ent.q rfl, Ent.q rfl, Ent.q rfl, Ent.q rfl, Ent.q rfl, Ent.q rfl, trivial⟩ ⟨rfl, rfl, ⟨rfl, rfl, trivial⟩⟩
    ·have hrest39 := range_end hxs31 hi32 (of_decide_eq_false hc36)
     subst hrest39
     rw [M.address_found_loop2.eq_1] at hm
     refine W.exit rfl ?_
     have hr57 := Option.some.inj hm
     clear hm
     subst hr57
     have hm := hk30
     try dsimp only at hm
     refine WN.seq ?_
     refine W.region ?_
     refine WL.mv rfl rfl ?_
     refine WL.opU (OpR.storeB (b := b) 5 Try.sizeOf25 (Cellable.o tapi_Unit k2 next) rfl (.tmp rfl) (.tmp rfl)) (fun _ => ?_)
     refine WL.nil ?_
     refine WN.block ?_
     refine WN.seq ?_
     refine W.region ?_
     refine WL.op rfl (.addI (.tmp rfl) .i64 (range_inR hi20 hp25 hlen21)) ?_
     refine WL.mv rfl rfl ?_
     refine WL.nil ?_
     refine WN.boxV (A' := ((tL tapi_Unit).is next)) 5 rfl (fun _ _ => tO_tL) ?_
     exact WN.again es.length (i + 1, pre ++ [e], es, next) (range_lt hn22) ⟨rfl, range_step hxs19, range_idx hi20, hm⟩ ⟨Ent.q rfl, Ent.q rfl, Ent.q rfl, Ent.q rfl, trivial⟩ ⟨rfl, rfl, trivial⟩
   ·have hrest27 := range_end hxs19 hi20 (of_decide_eq_false hc24)
    subst hrest27
    rw [M.address_found_loop1.eq_1] at hm
    refine W.exit rfl ?_
    have hr58 := Option.some.inj hm
    clear hm
    subst hr58
    have hm := hk18
    try dsimp only at hm
    refine WN.seq ?_
    refine W.sr ?_
    refine WL.op rfl (.loadB 5 Try.isAgg25 Try.sizeOf25 rfl (.tmp rfl)) ?_
    refine WL.gv rfl rfl ?_
    refine WL.ns ?_
    cases hm
    exact W.ret1 () rfl (.tmp rfl) trivial
  ·have hm := hs5
   clear hs5
   refine W.block ?_
   refine W.sr ?_
   refine WL.op rfl (.load ty28 (.tmp rfl)) ?_
   refine WL.op rfl (.lenL Try.underlying28 (.tmp rfl)) ?_
   refine WL.op rfl (.eqI (.tmp rfl) .i64) ?_
   refine WL.gv rfl rfl ?_
   refine WL.ns ?_
   refine W.cond (.tmp rfl) (fun hc7 => ?_) (fun hc7 => ?_)
   ·have hp8 := of_decide_eq_true hc7
    rw [if_pos hp8] at hm
    refine W.sr ?_
    refine WL.op rfl (.load ty27 (.tmp rfl)) ?_
    refine WL.op rfl (.buildSlice (n := 1) (ys := [(0, u)]) (z := zapi_Unit) (xs := [u]) Try.underlying25 el27 ze27 ⟨rfl, (.tmp rfl), trivial⟩ (by simp) (by decide) rfl) ?_
    refine WL.gv rfl rfl ?_
    refine WL.ns ?_
    have hr9 := Option.some.inj hm
    clear hm
    subst hr9
    have hm := hk6
    try dsimp only at hm
    cases hm
    exact W.ret1 () rfl (.tmp rfl) trivial
   ·have hp8 := of_decide_eq_false hc7
    rw [if_neg hp8] at hm
    refine W.sr ?_
    refine WL.op rfl (.load ty28 (.tmp rfl)) ?_
    obtain ⟨v, hv10, hm⟩ := bind_some hm
    refine WL.op rfl (.idx hv10 Try.underlying28 Try.sizeOf55 (.tmp rfl) .i64) ?_
    refine WL.op rfl (.load ty55 (.tmp rfl)) ?_
    obtain ⟨book, hv11, hm⟩ := bind_some hm
    refine WL.op rfl (.call Try.call97 (address_book_spec _ _ hv11) ⟨(.tmp rfl), trivial⟩) ?_
    refine WL.gv rfl rfl ?_
    refine WL.ns ?_
    refine W.cond (.tmp rfl) (fun hc12 => ?_) (fun hc12 => ?_)
    ·have hp13 := hc12
     rw [if_pos hp13] at hm
     refine W.region ?_
     refine WL.op rfl (.load ty27 (.tmp rfl)) ?_
     refine WL.opR rfl (OpR.buildSlice (n := 1) (ys := [(0, u)]) (z := zapi_Unit) (xs := [u]) 31 Try.underlying25 el27 ze27 ⟨rfl, (.tmp rfl), trivial⟩ (by simp) (by decide) rfl) (fun k => ?_)
     refine WL.opU (OpR.storeB (b := b) 5 Try.sizeOf25 (Cellable.o tapi_Unit k [u]) rfl (.tmp rfl) (.tmp rfl)) (fun _ => ?_)
     refine WL.nil ?_
     refine WN.block ?_
     refine WN.boxV (A' := ((tL tapi_Unit).is [u])) 5 rfl (fun _ _ => tO_tL) ?_
     exact WN.meet [u] (Option.some.inj hm) ⟨Ent.q rfl, Ent.q rfl, trivial⟩ ⟨rfl, rfl, trivial⟩
    ·have hp13 := ne_of_false hc12
     rw [if_neg hp13] at hm
     refine W.region ?_
     refine WL.op rfl (.load ty27 (.tmp rfl)) ?_
     refine WL.op rfl (.makeClo (Cs := [((tL tapi_Step).ptr p), (Bp b 0)]) (cap := [.tmp 3, .tmp 5]) ⟨(.tmp rfl), (.tmp rfl), trivial⟩) ?_
     obtain ⟨at0_1, hv14, hm⟩ := bind_some hm
     refine WL.weakR (res' := [(5, (Bx 1 false 25 (tO tapi_Unit (none : Tok) ([] : List api_Unit)) b)), (1000005, Dec.Own tapi_Unit 27 (none : Tok) ([] : List api_Unit).length)]) ⟨rfl, rfl, ⟨rfl, rfl, trivial⟩⟩ ?_
     refine WL.opR rfl (OpR.call (us := [5, 1000005]) (A := fun kx : Tok => (Asn.eq (.tuple #[]))) Try.call98 (FSpecR.keys (rin' := [(5, (Bx 1 false 25 (tO tapi_Unit (none : Tok) ([] : List api_Unit)) b)), (1000005, Dec.Own tapi_Unit 27 (none : Tok) ([] : List api_Unit).length)]) (out' := fun kx : Tok => [(5, (Bx 1 false 25 (tO tapi_Unit kx at0_1) b)), (1000005, Dec.Own tapi_Unit 27 kx at0_1.length)]) (address_each_i0_spec _ _ _ _ _ _ _ hv14) rfl (fun _ => rfl)) rfl ⟨(.tmp rfl), (.tmp rfl), trivial⟩) (fun k1 => ?_)
     refine WL.nil ?_
     refine WN.block ?_
     refine WN.boxV (A' := ((tL tapi_Unit).is at0_1)) 5 rfl (fun _ _ => tO_tL) ?_
     exact WN.meet at0_1 (Option.some.inj hm) ⟨Ent.q rfl, Ent.q rfl, trivial⟩ ⟨rfl, rfl, trivial⟩

theorem address_FindAll_spec (n : Nat) (u : api_Unit) (p : List api_Step) (r : (List api_Id)) (hm : M.address_FindAll n u p = some r) : FSpec Try.prog 85 [(tapi_Unit.is u), ((tL tapi_Step).is p)] ((tL tapi_Id).is r) := by
 unfold M.address_FindAll at hm
 refine FSpec.of Try.func85 rfl rfl rfl (fun g0 => ?_)
 refine W.sr ?_
 refine WL.op rfl (.box (.tmp rfl)) ?_
 refine WL.op rfl (.assign (.nil (t := tapi_Id))) ?_
 refine WL.nr ?_
 refine WL.addNil (t := tapi_Id) (E := 23) 5 ?_
 refine WL.op rfl (.assign (Opd.nilO (t := tapi_Id))) ?_
 refine WL.ns ?_
 refine W.seq ?_
 refine W.sr ?_
 refine WL.op rfl (.load ty27 (.tmp rfl)) ?_
 refine WL.mv rfl rfl ?_
 obtain ⟨found, hv1, hm⟩ := bind_some hm
 refine WL.op rfl (.call Try.call92 (address_found_spec _ _ _ _ hv1) ⟨(.tmp rfl), (.tmp rfl), trivial⟩) ?_
 refine WL.op rfl (.lenL Try.underlying25 (.tmp rfl)) ?_
 refine WL.op rfl (.move .i64) ?_
 refine WL.ns ?_
 refine W.block ?_
 obtain ⟨s2, hs3, hk4⟩ := bind_some hm
 clear hm
 refine W.loop (fun m (s : Int × List api_Unit × List api_Unit × (((List api_Id)) × Tok)) => m = s.2.2.1.length ∧ found = s.2.1 ++ s.2.2.1 ∧ s.1 = (s.2.1.length : Int) ∧ M.address_FindAll_loop1 s.2.2.1 s.2.2.2.1 = some s2) (fun s => [(12, ((tI .i64).is s.1)), (5, (tO tapi_Id s.2.2.2.2 s.2.2.2.1)), (10, ((tL tapi_Unit).is found)), (11, ((tI .i64).is (found.length : Int)))]) (fun s => [(5, Dec.Own tapi_Id 23 s.2.2.2.2 s.2.2.2.1.length)]) found.length ((0 : Int), [], found, (([] : List api_Id), (none : Tok))) ⟨rfl, rfl, rfl, hs3⟩ ⟨Ent.q rfl, Ent.q rfl, Ent.q rfl, Ent.q rfl, trivial⟩ ⟨rfl, rfl, trivial⟩ ?_
 rintro m ⟨i, pre, rest1, ⟨out, k⟩⟩ ⟨hn8, hxs5, hi6, hm⟩
 try dsimp only at hn8 hxs5 hi6 hm
 change W _ _ _ _ _ _ _ [(12, ((tI .i64).is i)), (5, (tO tapi_Id k out)), (10, ((tL tapi_Unit).is found)), (11, ((tI .i64).is (found.length : Int)))] [(5, Dec.Own tapi_Id 23 k out.length)]
 refine W.lenL (s := 10) (.tmp rfl) fun hlen7 => ?_
 refine W.sr ?_
 refine WL.op rfl (.ltI (.tmp rfl) (.tmp rfl)) ?_
 refine WL.ns ?_
 refine W.seq ?_
 refine W.cond (.tmp rfl) (fun hc10 => ?_) (fun hc10 => ?_)
 ·have hp11 := of_decide_eq_true hc10
  obtain ⟨e, es, hrest13⟩ := range_more hxs5 hi6 hp11
  subst hrest13
  rw [M.address_FindAll_loop1.eq_2] at hm
  refine W.skip ?_
  refine WN.seq ?_
  refine W.seq ?_
  refine W.block ?_
  refine W.sr ?_
  refine WL.op rfl (.idxPre hxs5 hi6 Try.underlying25 Try.sizeOf27 (.tmp rfl) (.tmp rfl)) ?_
  refine WL.op rfl (.load ty27 (.tmp rfl)) ?_
  refine WL.opR rfl (OpR.alloc 7 ze27) (fun b => ?_)
  refine WL.opU (OpR.storeB (b := b) 7 Try.sizeOf27 (Cellable.is tapi_Unit e) rfl (.tmp rfl) (.tmp rfl)) (fun _ => ?_)
  refine WL.sealed (t := tapi_Unit) (u := e) 7 7 rfl rfl ?_
  refine WL.nr1 ?_
  refine WL.mv rfl rfl ?_
  refine WL.op rfl (.fieldAddr Try.underlying27 rfl (fun w => ⟨2, Try.sizeOf23 w⟩) fapi_Unit_0 (.tmp rfl)) ?_
  refine WL.op rfl (.load ty23 (.tmp rfl)) ?_
  refine WL.op rfl (.buildSlice (n := 1) (ys := [(0, e.Id)]) (z := zapi_Id) (xs := [e.Id]) Try.underlying31 el23 ze23 ⟨rfl, (.tmp rfl), trivial⟩ (by simp) (by decide) rfl) ?_
  obtain ⟨out1, hv14, hm⟩ := bind_some hm
  refine WL.opR rfl (OpR.appC (key := 5) hv14 Try.underlying31 el23 (.tmp rfl) (.tmp rfl) rfl) (fun k1 => ?_)
  refine WL.gv rfl rfl ?_
  refine WL.nil ?_
  refine WN.block ?_
  refine WN.seq ?_
  refine W.region ?_
  refine WL.op rfl (.addI (.tmp rfl) .i64 (range_inR hi6 hp11 hlen7)) ?_
  refine WL.mv rfl rfl ?_
  refine WL.nil ?_
  exact WN.again es.length (i + 1, pre ++ [e], es, (out1, k1)) (range_lt hn8) ⟨rfl, range_step hxs5, range_idx hi6, hm⟩ ⟨Ent.q rfl, Ent.q rfl, Ent.q rfl, Ent.q rfl, trivial⟩ ⟨rfl, rfl, trivial⟩
 ·have hrest13 := range_end hxs5 hi6 (of_decide_eq_false hc10)
  subst hrest13
  rw [M.address_FindAll_loop1.eq_1] at hm
  refine W.exit rfl ?_
  have hr15 := Option.some.inj hm
  clear hm
  subst hr15
  have hm := hk4
  try dsimp only at hm
  refine WN.seq ?_
  refine W.sr ?_
  refine WL.mv rfl rfl ?_
  refine WL.gv rfl rfl ?_
  refine WL.ns ?_
  cases hm
  exact W.ret1 () rfl (Opd.own (.tmp rfl)) trivial

theorem address_FindOne_spec (n : Nat) (u : api_Unit) (p : List api_Step) (r : api_Id × Int) (hm : M.address_FindOne n u p = some r) : FSpec Try.prog 62 [(tapi_Unit.is u), ((tL tapi_Step).is p)] (Asn.tuple2 (tapi_Id.is r.1) ((tI .i64).is r.2)) := by
 unfold M.address_FindOne at hm
 refine FSpec.of Try.func62 rfl rfl rfl (fun g0 => ?_)
 refine W.sr ?_
 refine WL.op rfl (.box (.tmp rfl)) ?_
 refine WL.opR rfl (OpR.alloc 4 ze23) (fun b => ?_)
 refine WL.op rfl (.assign .i64) ?_
 refine WL.nr ?_
 refine WL.op rfl (.load ty27 (.tmp rfl)) ?_
 refine WL.mv rfl rfl ?_
 obtain ⟨findal, hv1, hm⟩ := bind_some hm
 refine WL.op rfl (.call Try.call85 (address_FindAll_spec _ _ _ _ hv1) ⟨(.tmp rfl), (.tmp rfl), trivial⟩) ?_
 refine WL.gv rfl rfl ?_
 refine WL.ns ?_
 refine W.seq ?_
 refine W.sr ?_
 refine WL.mv rfl rfl ?_
 refine WL.op rfl (.lenL Try.underlying31 (.tmp rfl)) ?_
 refine WL.ns ?_
 refine W.block ?_
 refine W.sr ?_
 refine WL.op rfl (.eqI (.tmp rfl) .i64) ?_
 refine WL.gv rfl rfl ?_
 refine WL.ns ?_
 refine W.cond (.tmp rfl) (fun hc2 => ?_) (fun hc2 => ?_)
 ·have hp3 := of_decide_eq_true hc2
  rw [if_pos hp3] at hm
  refine W.sr ?_
  refine WL.op rfl (.build (s := tapi_Id) (x := (⟨(0 : Int), (0 : Int), (0 : Int)⟩ : api_Id)) zapi_Id_f rfl Try.underlying23 (zapi_Id_sz _ Try.underlying23) ze23 rfl) ?_
  refine WL.opU (OpR.storeB (b := b) 4 Try.sizeOf23 (Cellable.is tapi_Id (⟨(0 : Int), (0 : Int), (0 : Int)⟩ : api_Id)) rfl (.tmp rfl) (.tmp rfl)) (fun _ => ?_)
  refine WL.op rfl (.assign .i64) ?_
  refine WL.ns ?_
  cases hm
  exact W.retQ2 () rfl rfl (ResAt.cell 4 Try.isAgg23 Try.sizeOf23 rfl (.tmp rfl)) (ResAt.tmp (.tmp rfl)) trivial
 ·have hp3 := of_decide_eq_false hc2
  rw [if_neg hp3] at hm
  refine W.sr ?_
  refine WL.op rfl (.eqI (.tmp rfl) .i64) ?_
  refine WL.gv rfl rfl ?_
  refine WL.ns ?_
  refine W.cond (.tmp rfl) (fun hc4 => ?_) (fun hc4 => ?_)
  ·have hp5 := of_decide_eq_true hc4
   rw [if_pos hp5] at hm
   refine W.sr ?_
   refine WL.mv rfl rfl ?_
   obtain ⟨v, hv6, hm⟩ := bind_some hm
   refine WL.op rfl (.idx hv6 Try.underlying31 Try.sizeOf23 (.tmp rfl) .i64) ?_
   refine WL.op rfl (.load ty23 (.tmp rfl)) ?_
   refine WL.opU (OpR.storeB (b := b) 4 Try.sizeOf23 (Cellable.is tapi_Id v) rfl (.tmp rfl) (.tmp rfl)) (fun _ => ?_)
   refine WL.op rfl (.assign .i64) ?_
   refine WL.ns ?_
   cases hm
   exact W.retQ2 () rfl rfl (ResAt.cell 4 Try.isAgg23 Try.sizeOf23 rfl (.tmp rfl)) (ResAt.tmp (.tmp rfl)) trivial
  ·have hp5 := of_decide_eq_false hc4
   rw [if_neg hp5] at hm
   refine W.skip ?_
   refine WN.block ?_
   refine WN.seq ?_
   refine W.sr ?_
   refine WL.op rfl (.build (s := tapi_Id) (x := (⟨(0 : Int), (0 : Int), (0 : Int)⟩ : api_Id)) zapi_Id_f rfl Try.underlying23 (zapi_Id_sz _ Try.underlying23) ze23 rfl) ?_
   refine WL.opU (OpR.storeB (b := b) 4 Try.sizeOf23 (Cellable.is tapi_Id (⟨(0 : Int), (0 : Int), (0 : Int)⟩ : api_Id)) rfl (.tmp rfl) (.tmp rfl)) (fun _ => ?_)
   refine WL.op rfl (.assign .i64) ?_
   refine WL.ns ?_
   cases hm
   exact W.retQ2 () rfl rfl (ResAt.cell 4 Try.isAgg23 Try.sizeOf23 rfl (.tmp rfl)) (ResAt.tmp (.tmp rfl)) trivial

theorem resolve_plain_spec (n : Nat) (s0_ : resolve_scene) (c : api_Cite) (r : (List api_Id) × Int) (hm : M.resolve_plain n s0_ c = some r) : FSpec Try.prog 41 [(tresolve_scene.is s0_), (tapi_Cite.is c)] (Asn.tuple2 ((tL tapi_Id).is r.1) ((tI .i64).is r.2)) := by
 unfold M.resolve_plain at hm
 refine FSpec.of Try.func41 rfl rfl rfl (fun g0 => ?_)
 refine W.sr ?_
 refine WL.op rfl (.box (.tmp rfl)) ?_
 refine WL.op rfl (.box (.tmp rfl)) ?_
 refine WL.op rfl (.assign (.nil (t := tapi_Id))) ?_
 refine WL.op rfl (.assign .i64) ?_
 refine WL.nr ?_
 refine WL.op rfl (.fieldAddr Try.underlying62 rfl (fun w => ⟨7, Try.sizeOf27 w⟩) fresolve_scene_0 (.tmp rfl)) ?_
 refine WL.op rfl (.load ty27 (.tmp rfl)) ?_
 refine WL.op rfl (.fieldAddr Try.underlying30 rfl (fun w => ⟨0, Try.sizeOf28 w⟩) fapi_Cite_1 (.tmp rfl)) ?_
 refine WL.op rfl (.load ty28 (.tmp rfl)) ?_
 obtain ⟨findon, hv1, hm⟩ := bind_some hm
 refine WL.op rfl (.call Try.call62 (address_FindOne_spec _ _ _ _ hv1) ⟨(.tmp rfl), (.tmp rfl), trivial⟩) ?_
 refine WL.mv rfl rfl ?_
 refine WL.op rfl (.extract0 (.tmp rfl)) ?_
 refine WL.op rfl (.extract1 (.tmp rfl)) ?_
 refine WL.opR rfl (OpR.alloc 6 ze23) (fun b => ?_)
 refine WL.opU (OpR.storeB (b := b) 6 Try.sizeOf23 (Cellable.is tapi_Id findon.1) rfl (.tmp rfl) (.tmp rfl)) (fun _ => ?_)
 refine WL.sealed (t := tapi_Id) (u := findon.1) 6 6 rfl rfl ?_
 refine WL.gv rfl rfl ?_
 refine WL.ns ?_
 refine W.seq ?_
 refine W.sr ?_
 refine WL.mv rfl rfl ?_
 refine WL.op rfl (.neI (.tmp rfl) .i64) ?_
 refine WL.ns ?_
 refine W.cond (.tmp rfl) (fun hc2 => ?_) (fun hc2 => ?_)
 ·have hp3 := of_decide_eq_true hc2
  rw [if_pos hp3] at hm
  refine W.sr ?_
  refine WL.mv rfl rfl ?_
  refine WL.op rfl (.assign (.nil (t := tapi_Id))) ?_
  refine WL.gv rfl rfl ?_
  refine WL.ns ?_
  cases hm
  exact W.ret2 () rfl rfl (.tmp rfl) (.tmp rfl) trivial
 ·have hp3 := of_decide_eq_false hc2
  rw [if_neg hp3] at hm
  refine W.skip ?_
  refine WN.seq ?_
  refine W.sr ?_
  refine WL.op rfl (.load ty23 (.tmp rfl)) ?_
  refine WL.op rfl (.buildSlice (n := 1) (ys := [(0, findon.1)]) (z := zapi_Id) (xs := [findon.1]) Try.underlying31 el23 ze23 ⟨rfl, (.tmp rfl), trivial⟩ (by simp) (by decide) rfl) ?_
  refine WL.gv rfl rfl ?_
  refine WL.op rfl (.assign .i64) ?_
  refine WL.ns ?_
  cases hm
  exact W.ret2 () rfl rfl (.tmp rfl) (.tmp rfl) trivial

theorem unit_way_spec : ∀ (n : Nat) (u : api_Unit) (id : api_Id) (r : (List api_Unit)), M.unit_way n u id = some r → FSpec Try.prog 53 [(tapi_Unit.is u), (tapi_Id.is id)] ((tLn tapi_Unit).is r) := by
 intro n
 induction n with
 | zero => intro u id r hm; cases hm
 | succ n ih =>
  intro u id r hm
  rw [M.unit_way.eq_2] at hm
  refine FSpec.of Try.func53 rfl rfl rfl (fun g0 => ?_)
  refine W.sr ?_
  refine WL.op rfl (.box (.tmp rfl)) ?_
  refine WL.op rfl (.box (.tmp rfl)) ?_
  refine WL.op rfl (.assign (.nilN (t := tapi_Unit))) ?_
  refine WL.ns ?_
  refine W.seq ?_
  refine W.sr ?_
  refine WL.op rfl (.fieldAddr Try.underlying27 rfl (fun w => ⟨2, Try.sizeOf23 w⟩) fapi_Unit_0 (.tmp rfl)) ?_
  refine WL.op rfl (.load ty23 (.tmp rfl)) ?_
  refine WL.op rfl (.load ty23 (.tmp rfl)) ?_
  refine WL.op rfl (.eqSt (D := 2) rfl (by decide) eg23 eq23 (.tmp rfl) (.tmp rfl)) ?_
  refine WL.ns ?_
  refine W.cond (.tmp rfl) (fun hc1 => ?_) (fun hc1 => ?_)
  ·have hp2 := of_decide_eq_true hc1
   rw [if_pos hp2] at hm
   refine W.sr ?_
   refine WL.op rfl (.load ty27 (.tmp rfl)) ?_
   refine WL.op rfl (.buildSlice (n := 1) (ys := [(0, u)]) (z := zapi_Unit) (xs := [u]) Try.underlying25 el27 ze27 ⟨rfl, (.tmp rfl), trivial⟩ (by simp) (by decide) rfl) ?_
   refine WL.gv rfl rfl ?_
   refine WL.ns ?_
   obtain ⟨_, hz3, hm⟩ := bind_some hm
   cases hm
   exact W.ret1 () rfl (Opd.asLn (neC_ne hz3) (.tmp rfl)) trivial
  ·have hp2 := of_decide_eq_false hc1
   rw [if_neg hp2] at hm
   refine W.skip ?_
   refine WN.seq ?_
   refine W.seq ?_
   refine W.sr ?_
   refine WL.op rfl (.fieldAddr Try.underlying27 rfl (fun w => ⟨0, Try.sizeOf25 w⟩) fapi_Unit_5 (.tmp rfl)) ?_
   refine WL.op rfl (.load ty25 (.tmp rfl)) ?_
   refine WL.op rfl (.lenL Try.underlying25 (.tmp rfl)) ?_
   refine WL.op rfl (.move .i64) ?_
   refine WL.ns ?_
   refine W.block ?_
   obtain ⟨s5, hs6, hk7⟩ := bind_some hm
   clear hm
   refine W.loop (fun m (s : Int × List api_Unit × List api_Unit × Unit) => m = s.2.2.1.length ∧ u.Kids = s.2.1 ++ s.2.2.1 ∧ s.1 = (s.2.1.length : Int) ∧ M.unit_way_loop1 u id (M.unit_way n) s.2.2.1 = some s5) (fun s => [(17, ((tI .i64).is s.1)), (2, (tapi_Unit.ptr u)), (3, (tapi_Id.ptr id)), (15, ((tL tapi_Unit).is u.Kids)), (16, ((tI .i64).is (u.Kids.length : Int)))]) (fun s => []) u.Kids.length ((0 : Int), [], u.Kids, ()) ⟨rfl, rfl, rfl, hs6⟩ ⟨Ent.q rfl, Ent.q rfl, Ent.q rfl, Ent.q rfl, Ent.q rfl, trivial⟩ trivial ?_
   rintro m ⟨i, pre, rest1, _⟩ ⟨hn11, hxs8, hi9, hm⟩
   try dsimp only at hn11 hxs8 hi9 hm
   change W _ _ _ _ _ _ _ [(17, ((tI .i64).is i)), (2, (tapi_Unit.ptr u)), (3, (tapi_Id.ptr id)), (15, ((tL tapi_Unit).is u.Kids)), (16, ((tI .i64).is (u.Kids.length : Int)))] []
   refine W.lenL (s := 15) (.tmp rfl) fun hlen10 => ?_
   refine W.sr ?_
   refine WL.op rfl (.ltI (.tmp rfl) (.tmp rfl)) ?_
   refine WL.ns ?_
   refine W.seq ?_
   refine W.cond (.tmp rfl) (fun hc13 => ?_) (fun hc13 => ?_)
   ·have hp14 := of_decide_eq_true hc13
    obtain ⟨e, es, hrest16⟩ := range_more hxs8 hi9 hp14
    subst hrest16
    rw [M.unit_way_loop1.eq_2] at hm
    refine W.skip ?_
    refine WN.seq ?_
    refine W.seq ?_
    refine W.block ?_
    refine W.sr ?_
    refine WL.op rfl (.idxPre hxs8 hi9 Try.underlying25 Try.sizeOf27 (.tmp rfl) (.tmp rfl)) ?_
    refine WL.op rfl (.load ty27 (.tmp rfl)) ?_
    refine WL.opR rfl (OpR.alloc 6 ze27) (fun b => ?_)
    refine WL.opU (OpR.storeB (b := b) 6 Try.sizeOf27 (Cellable.is tapi_Unit e) rfl (.tmp rfl) (.tmp rfl)) (fun _ => ?_)
    refine WL.sealed (t := tapi_Unit) (u := e) 6 6 rfl rfl ?_
    refine WL.nr ?_
    refine WL.op rfl (.load ty27 (.tmp rfl)) ?_
    refine WL.op rfl (.load ty23 (.tmp rfl)) ?_
    obtain ⟨way, hv17, hm⟩ := bind_some hm
    refine WL.op rfl (.call Try.call53 (ih _ _ _ hv17) ⟨(.tmp rfl), (.tmp rfl), trivial⟩) ?_
    refine WL.gv rfl rfl ?_
    refine WL.nr ?_
    refine WL.mv rfl rfl ?_
    refine WL.op rfl (.neNil Try.underlying25 (.tmp rfl)) ?_
    refine WL.ns ?_
    refine W.cond (.tmp rfl) (fun hc18 => ?_) (fun hc18 => ?_)
    ·have hp19 := not_pos hc18
     rw [if_pos hp19] at hm
     refine W.sr ?_
     refine WL.op rfl (.load ty27 (.tmp rfl)) ?_
     refine WL.opR rfl (OpR.buildSlice (n := 1) (ys := [(0, u)]) (z := zapi_Unit) (xs := [u]) 27 Try.underlying25 el27 ze27 ⟨rfl, (.tmp rfl), trivial⟩ (by simp) (by decide) rfl) (fun k => ?_)
     refine WL.mv rfl rfl ?_
     obtain ⟨out, hv20, hm⟩ := bind_some hm
     refine WL.opR rfl (OpR.appC (key := 27) hv20 Try.underlying25 el27 (.tmp rfl) (Opd.tLn (.tmp rfl)) rfl) (fun k1 => ?_)
     refine WL.gv rfl rfl ?_
     refine WL.ns ?_
     obtain ⟨_, hz21, hm⟩ := bind_some hm
     have hr23 := Option.some.inj hm
     clear hm
     subst hr23
     have hm := hk7
     try dsimp only at hm
     cases hm
     exact W.ret1 () rfl (Opd.asLn (neC_ne hz21) (Opd.own (.tmp rfl))) trivial
    ·have hp19 := not_neg hc18
     rw [if_neg hp19] at hm
     refine W.skip ?_
     refine WN.block ?_
     refine WN.seq ?_
     refine W.region ?_
     refine WL.op rfl (.addI (.tmp rfl) .i64 (range_inR hi9 hp14 hlen10)) ?_
     refine WL.mv rfl rfl ?_
     refine WL.nil ?_
     exact WN.again es.length (i + 1, pre ++ [e], es, ()) (range_lt hn11) ⟨rfl, range_step hxs8, range_idx hi9, hm⟩ ⟨Ent.q rfl, Ent.q rfl, Ent.q rfl, Ent.q rfl, Ent.q rfl, trivial⟩ trivial
   ·have hrest16 := range_end hxs8 hi9 (of_decide_eq_false hc13)
    subst hrest16
    rw [M.unit_way_loop1.eq_1] at hm
    refine W.exit rfl ?_
    have hr24 := Option.some.inj hm
    clear hm
    subst hr24
    have hm := hk7
    try dsimp only at hm
    refine WN.seq ?_
    refine W.sr ?_
    refine WL.op rfl (.assign (.nilN (t := tapi_Unit))) ?_
    refine WL.ns ?_
    cases hm
    exact W.ret1 () rfl (.tmp rfl) trivial

theorem unit_Parent_1_spec (n : Nat) (k : api_Unit) (c : api_Id) (r : Bool) (hm : M.unit_Parent_1 n k c = some r) : FSpec Try.prog 78 [(tapi_Unit.is k), (tapi_Id.ptr c)] (tB.is r) := by
 unfold M.unit_Parent_1 at hm
 refine FSpec.of Try.func78 rfl rfl rfl (fun g0 => ?_)
 refine W.sr ?_
 refine WL.op rfl (.box (.tmp rfl)) ?_
 refine WL.op rfl (.assign .bool) ?_
 refine WL.nr ?_
 refine WL.op rfl (.load ty27 (.tmp rfl)) ?_
 refine WL.op rfl (.load ty23 (.tmp rfl)) ?_
 obtain ⟨way, hv1, hm⟩ := bind_some hm
 refine WL.op rfl (.call Try.call53 (unit_way_spec _ _ _ _ hv1) ⟨(.tmp rfl), (.tmp rfl), trivial⟩) ?_
 refine WL.op rfl (.neNil Try.underlying25 (.tmp rfl)) ?_
 refine WL.gv rfl rfl ?_
 refine WL.ns ?_
 cases hm
 exact W.ret1 () rfl (.tmp rfl) trivial

theorem slices_IndexFunc_api_Unit_api_Unit_spec (n : Nat) (s0_ : List api_Unit) (f : api_Unit → Option Bool) (r : Int) (hm : M.slices_IndexFunc_api_Unit_api_Unit n s0_ f = some r) : FSpec Try.prog 63 [((tL tapi_Unit).is s0_), (tF Try.prog (fun s : api_Unit × Bool => f s.1 = some s.2) (fun s : api_Unit × Bool => [tapi_Unit.is s.1]) (fun s : api_Unit × Bool => (tB.is s.2)))] ((tI .i64).is r) := by
 unfold M.slices_IndexFunc_api_Unit_api_Unit at hm
 refine FSpec.of Try.func63 rfl rfl rfl (fun g0 => ?_)
 refine W.sr ?_
 refine WL.op rfl (.assign .i64) ?_
 refine WL.ns ?_
 refine W.seq ?_
 refine W.sr ?_
 refine WL.mv rfl rfl ?_
 refine WL.op rfl (.lenL Try.underlying25 (.tmp rfl)) ?_
 refine WL.op rfl (.move .i64) ?_
 refine WL.ns ?_
 refine W.block ?_
 obtain ⟨s1, hs2, hk3⟩ := bind_some hm
 clear hm
 refine W.loop (fun m (s : Int) => M.slices_IndexFunc_api_Unit_api_Unit_loop1 s0_ f m s = some s1) (fun s => [(8, ((tI .i64).is s)), (0, ((tL tapi_Unit).is s0_)), (1, (tF Try.prog (fun s : api_Unit × Bool => f s.1 = some s.2) (fun s : api_Unit × Bool => [tapi_Unit.is s.1]) (fun s : api_Unit × Bool => (tB.is s.2)))), (7, ((tI .i64).is (s0_.length : Int)))]) (fun s => []) _ (0 : Int) hs2 ⟨Ent.q rfl, Ent.q rfl, Ent.q rfl, Ent.q rfl, trivial⟩ trivial ?_
 rintro n4 v hm
 try dsimp only at hm
 change W _ _ _ _ _ _ _ [(8, ((tI .i64).is v)), (0, ((tL tapi_Unit).is s0_)), (1, (tF Try.prog (fun s : api_Unit × Bool => f s.1 = some s.2) (fun s : api_Unit × Bool => [tapi_Unit.is s.1]) (fun s : api_Unit × Bool => (tB.is s.2)))), (7, ((tI .i64).is (s0_.length : Int)))] []
 cases n4 with
 | zero => rw [M.slices_IndexFunc_api_Unit_api_Unit_loop1.eq_1] at hm; cases hm
 | succ n4 =>
  rw [M.slices_IndexFunc_api_Unit_api_Unit_loop1.eq_2] at hm
  refine W.sr ?_
  refine WL.op rfl (.ltI (.tmp rfl) (.tmp rfl)) ?_
  refine WL.ns ?_
  refine W.seq ?_
  refine W.cond (.tmp rfl) (fun hc5 => ?_) (fun hc5 => ?_)
  ·have hp6 := of_decide_eq_true hc5
   rw [if_pos hp6] at hm
   refine W.skip ?_
   refine WN.seq ?_
   refine W.seq ?_
   refine W.block ?_
   refine W.sr ?_
   refine WL.mv rfl rfl ?_
   refine WL.gv rfl rfl ?_
   refine WL.nr ?_
   refine WL.mv rfl rfl ?_
   refine WL.mv rfl rfl ?_
   refine WL.mv rfl rfl ?_
   obtain ⟨v1, hv7, hm⟩ := bind_some hm
   refine WL.op rfl (.idx hv7 Try.underlying25 Try.sizeOf27 (.tmp rfl) (.tmp rfl)) ?_
   refine WL.op rfl (.load ty27 (.tmp rfl)) ?_
   obtain ⟨v2, hv8, hm⟩ := bind_some hm
   refine WL.op rfl (.callF (ok := (fun s : api_Unit × Bool => f s.1 = some s.2)) (As := (fun s : api_Unit × Bool => [tapi_Unit.is s.1])) (A := (fun s : api_Unit × Bool => (tB.is s.2))) (s := (v1, v2)) (.tmp rfl) hv8 ⟨(.tmp rfl), trivial⟩) ?_
   refine WL.ns ?_
   refine W.cond (.tmp rfl) (fun hc9 => ?_) (fun hc9 => ?_)
   ·have hp10 := hc9
    rw [if_pos hp10] at hm
    refine W.sr ?_
    refine WL.mv rfl rfl ?_
    refine WL.gv rfl rfl ?_
    refine WL.ns ?_
    have hr11 := Option.some.inj hm
    clear hm
    subst hr11
    have hm := hk3
    try dsimp only at hm
    cases hm
    exact W.ret1 () rfl (.tmp rfl) trivial
   ·have hp10 := ne_of_false hc9
    rw [if_neg hp10] at hm
    refine W.skip ?_
    refine WN.block ?_
    refine WN.seq ?_
    refine W.region ?_
    refine WL.lenL (s := 0) (.tmp rfl) fun hl12 => ?_
    refine WL.op rfl (.addI1 (.tmp rfl) .i64 hp6 hl12) ?_
    refine WL.mv rfl rfl ?_
    refine WL.nil ?_
    exact WN.again n4 (v + 1) (Nat.lt_succ_self n4) hm ⟨Ent.q rfl, Ent.q rfl, Ent.q rfl, Ent.q rfl, trivial⟩ trivial
  ·have hp6 := of_decide_eq_false hc5
   rw [if_neg hp6] at hm
   refine W.exit rfl ?_
   have hr13 := Option.some.inj hm
   clear hm
   subst hr13
   have hm := hk3
   try dsimp only at hm
   refine WN.seq ?_
   refine W.sr ?_
   refine WL.op rfl (.assign .i64) ?_
   refine WL.ns ?_
   cases hm
   exact W.ret1 () rfl (.tmp rfl) trivial

theorem unit_Parent_spec (n : Nat) (u : api_Unit) (id : api_Id) (r : api_Id × Int × Bool) (hm : M.unit_Parent n u id = some r) : FSpec Try.prog 55 [(tapi_Unit.is u), (tapi_Id.is id)] (Asn.tuple3 (tapi_Id.is r.1) ((tI .i64).is r.2.1) (tB.is r.2.2)) := by
 unfold M.unit_Parent at hm
 refine FSpec.of Try.func55 rfl rfl rfl (fun g0 => ?_)
 refine W.sr ?_
 refine WL.op rfl (.box (.tmp rfl)) ?_
 refine WL.op rfl (.box (.tmp rfl)) ?_
 refine WL.opR rfl (OpR.alloc 4 ze23) (fun b => ?_)
 refine WL.op rfl (.assign .i64) ?_
 refine WL.op rfl (.assign .bool) ?_
 refine WL.nr ?_
 refine WL.op rfl (.load ty27 (.tmp rfl)) ?_
 refine WL.op rfl (.load ty23 (.tmp rfl)) ?_
 obtain ⟨way, hv1, hm⟩ := bind_some hm
 refine WL.op rfl (.call Try.call53 (unit_way_spec _ _ _ _ hv1) ⟨(.tmp rfl), (.tmp rfl), trivial⟩) ?_
 refine WL.gv rfl rfl ?_
 refine WL.ns ?_
 refine W.seq ?_
 refine W.sr ?_
 refine WL.mv rfl rfl ?_
 refine WL.op rfl (.lenL Try.underlying25 (Opd.tLn (.tmp rfl))) ?_
 refine WL.op rfl (.ltI (.tmp rfl) .i64) ?_
 refine WL.ns ?_
 refine W.cond (.tmp rfl) (fun hc2 => ?_) (fun hc2 => ?_)
 ·have hp3 := of_decide_eq_true hc2
  rw [if_pos hp3] at hm
  refine W.sr ?_
  refine WL.op rfl (.build (s := tapi_Id) (x := (⟨(0 : Int), (0 : Int), (0 : Int)⟩ : api_Id)) zapi_Id_f rfl Try.underlying23 (zapi_Id_sz _ Try.underlying23) ze23 rfl) ?_
  refine WL.opU (OpR.storeB (b := b) 4 Try.sizeOf23 (Cellable.is tapi_Id (⟨(0 : Int), (0 : Int), (0 : Int)⟩ : api_Id)) rfl (.tmp rfl) (.tmp rfl)) (fun _ => ?_)
  refine WL.op rfl (.assign .i64) ?_
  refine WL.op rfl (.assign .bool) ?_
  refine WL.ns ?_
  cases hm
  exact W.retQ3 () rfl rfl (ResAt.cell 4 Try.isAgg23 Try.sizeOf23 rfl (.tmp rfl)) (ResAt.tmp (.tmp rfl)) (ResAt.tmp (.tmp rfl)) trivial
 ·have hp3 := of_decide_eq_false hc2
  rw [if_neg hp3] at hm
  refine W.skip ?_
  refine WN.seq ?_
  refine W.sr ?_
  refine WL.mv rfl rfl ?_
  refine WL.mv rfl rfl ?_
  refine WL.op rfl (.lenL Try.underlying25 (Opd.tLn (.tmp rfl))) ?_
  obtain ⟨v, hv4, hm⟩ := bind_some hm
  refine WL.op rfl (.subC hv4 (.tmp rfl) .i64) ?_
  obtain ⟨v1, hv5, hm⟩ := bind_some hm
  refine WL.op rfl (.idx hv5 Try.underlying25 Try.sizeOf27 (Opd.tLn (.tmp rfl)) (.tmp rfl)) ?_
  refine WL.op rfl (.load ty27 (.tmp rfl)) ?_
  refine WL.opR rfl (OpR.alloc 8 ze27) (fun b1 => ?_)
  refine WL.opU (OpR.storeB (b := b1) 8 Try.sizeOf27 (Cellable.is tapi_Unit v1) rfl (.tmp rfl) (.tmp rfl)) (fun _ => ?_)
  refine WL.sealed (t := tapi_Unit) (u := v1) 8 8 rfl rfl ?_
  refine WL.nr ?_
  refine WL.op rfl (.fieldAddr Try.underlying27 rfl (fun w => ⟨0, Try.sizeOf25 w⟩) fapi_Unit_5 (.tmp rfl)) ?_
  refine WL.op rfl (.load ty25 (.tmp rfl)) ?_
  refine WL.op rfl (.makeFunc (ok := (fun s : api_Unit × Bool => (fun s0 => M.unit_Parent_1 n s0 id) s.1 = some s.2)) (As := (fun s : api_Unit × Bool => [tapi_Unit.is s.1])) (A := (fun s : api_Unit × Bool => (tB.is s.2))) (Cs := [(tapi_Id.ptr id)]) (cap := [.tmp 3]) Try.call78 ⟨(.tmp rfl), trivial⟩ (fun s hs => unit_Parent_1_spec _ _ _ _ hs)) ?_
  obtain ⟨unit, hv6, hm⟩ := bind_some hm
  refine WL.op rfl (.call Try.call63 (slices_IndexFunc_api_Unit_api_Unit_spec _ _ _ _ hv6) ⟨(.tmp rfl), (.tmp rfl), trivial⟩) ?_
  refine WL.gv rfl rfl ?_
  refine WL.nr ?_
  refine WL.op rfl (.fieldAddr Try.underlying27 rfl (fun w => ⟨2, Try.sizeOf23 w⟩) fapi_Unit_0 (.tmp rfl)) ?_
  refine WL.op rfl (.load ty23 (.tmp rfl)) ?_
  refine WL.mv rfl rfl ?_
  refine WL.opU (OpR.storeB (b := b) 4 Try.sizeOf23 (Cellable.is tapi_Id v1.Id) rfl (.tmp rfl) (.tmp rfl)) (fun _ => ?_)
  refine WL.gv rfl rfl ?_
  refine WL.op rfl (.assign .bool) ?_
  refine WL.ns ?_
  cases hm
  exact W.retQ3 () rfl rfl (ResAt.cell 4 Try.isAgg23 Try.sizeOf23 rfl (.tmp rfl)) (ResAt.tmp (.tmp rfl)) (ResAt.tmp (.tmp rfl)) trivial

theorem slices_Clone_api_Word_api_Word_spec (l : List api_Word) (r : List api_Word) (hm : M.slices_Clone_api_Word_api_Word l = some r) : FSpecR Try.prog 77 [(tL tapi_Word).is l] [] (fun k : Tok => tO tapi_Word k r) (fun k => [(5, Dec.Own tapi_Word 100 k r.length)]) := by
 unfold M.slices_Clone_api_Word_api_Word at hm
 refine FSpecR.of Try.func77 rfl rfl rfl (fun g0 => ?_)
 refine W.seq ?_
 refine W.region ?_
 refine WL.op rfl (.assign (.nil (t := tapi_Word))) ?_
 refine WL.nil ?_
 refine WN.seq ?_
 refine W.seq ?_
 refine W.seq ?_
 refine W.region ?_
 refine WL.op rfl (.move (.tmp rfl)) ?_
 refine WL.opR rfl (OpR.eqNil Try.underlying24 (.tmp rfl)) (fun b => ?_)
 refine WL.nil ?_
 refine WN.seq ?_
 refine W.cond (.tmp rfl) (fun hc => ?_) (fun hc => ?_)
 ·have hl := b.2 hc
  subst hl
  have hr : [] = r := by simpa [appC] using hm
  subst hr
  refine W.seq ?_
  refine W.region ?_
  refine WL.addNil (t := tapi_Word) (E := 100) 5 ?_
  refine WL.op rfl (.assign (Opd.nilO (t := tapi_Word))) ?_
  refine WL.nil ?_
  refine WN.seq ?_
  exact W.ret1 (none : Tok) rfl (.tmp rfl) ⟨rfl, rfl, trivial⟩
 ·refine W.skip ?_
  refine WN.seq ?_
  refine W.seq ?_
  refine W.region ?_
  refine WL.opR rfl (OpR.buildSlice (n := 0) (ys := []) (z := zapi_Word) (xs := []) 5 Try.underlying24 el100 ze100 trivial (by simp) (by decide) rfl) (fun k5 => ?_)
  refine WL.op rfl (.move (.tmp rfl)) ?_
  refine WL.opR rfl (OpR.appC (key := 5) hm Try.underlying24 el100 (.tmp rfl) (.tmp rfl) rfl) (fun k7 => ?_)
  refine WL.op rfl (.assign (.tmp rfl)) ?_
  refine WL.nil ?_
  refine WN.seq ?_
  exact W.ret1 k7 rfl (.tmp rfl) ⟨rfl, rfl, trivial⟩

theorem unit_copied_spec : ∀ (n : Nat) (u : api_Unit) (r : api_Unit), M.unit_copied n u = some r → FSpec Try.prog 54 [(tapi_Unit.is u)] (tapi_Unit.is r) := by
 intro n
 induction n with
 | zero => intro u r hm; cases hm
 | succ n ih =>
  intro u r hm
  rw [M.unit_copied.eq_2] at hm
  refine FSpec.of Try.func54 rfl rfl rfl (fun g0 => ?_)
  refine W.sr ?_
  refine WL.opR rfl (OpR.boxB 1 (Cellable.is tapi_Unit u) (.tmp rfl)) (fun b => ?_)
  refine WL.opR rfl (OpR.alloc 2 ze27) (fun b1 => ?_)
  refine WL.ns ?_
  refine W.seq ?_
  obtain ⟨word, hv1, hm⟩ := bind_some hm
  obtain ⟨word1, hv2, hm⟩ := bind_some hm
  refine W.weakR (res' := [(1, (Bx 8 true 27 (tapi_Unit.is u) b)), (2, (Bx 8 true 27 (tapi_Unit.is zapi_Unit) b1))]) ⟨rfl, rfl, ⟨rfl, rfl, trivial⟩⟩ ?_
  refine W.drawM [.c (Bp b 5), .c ((tL tapi_Word).is u.Head), .c ((tL tapi_Word).is word), .c (Bp b 6), .c ((tL tapi_Word).is u.Words), .c ((tL tapi_Word).is word1), .c (Bp b 5), .c Asn.any, .c (Bp b 6), .c Asn.any] [([], [1]), ([0], []), ([1], []), ([], [1]), ([3], []), ([4], []), ([], [1]), ([2, 6], []), ([], [1]), ([5, 8], [])] [7, 9] [[], [], [], [], [], [], [], [], [], []] (fun m cv => match m with | 0 => [(1, (Bx 8 true 27 (tapi_Unit.is u) b)), (2, (Bx 8 true 27 (tapi_Unit.is zapi_Unit) b1))] | 1 => [(1, (Bx 8 true 27 (tapi_Unit.is ({ u with Head := word } : api_Unit)) b)), (2, (Bx 8 true 27 (tapi_Unit.is zapi_Unit) b1))] | _ => [(1, (Bx 8 true 27 (tapi_Unit.is ({ ({ u with Head := word } : api_Unit) with Words := word1 } : api_Unit)) b)), (2, (Bx 8 true 27 (tapi_Unit.is zapi_Unit) b1))]) (fun _ => none) Try.mixed rfl rfl rfl rfl rfl ⟨fun _ _ _ _ => rfl, ⟨fun _ _ _ _ => rfl, ⟨fun _ _ _ _ => rfl, ⟨fun _ _ _ _ => rfl, ⟨fun _ _ _ _ => rfl, ⟨fun _ _ _ _ => rfl, ⟨fun _ _ _ _ => rfl, ⟨fun _ _ _ _ => rfl, ⟨fun _ _ _ _ => rfl, ⟨fun _ _ _ _ => rfl, trivial⟩⟩⟩⟩⟩⟩⟩⟩⟩⟩ rfl ⟨mo fun cv => Op1.fieldAddrB (o := 0) Try.underlying27 rfl (fun w => ⟨0, Try.sizeOf24 w⟩) (.tmp rfl) rfl, ⟨.inr ⟨fun cv => [(1, (Bx 8 true 27 (tapi_Unit.is u) b))], (AllUpTo.at ⟨⟨(fun _ _ => ⟨rfl, rfl, trivial⟩), (fun hw => absurd hw (by decide))⟩, (fun hw => absurd hw (by decide))⟩), fun cv => Op1.loadBF 1 rfl ty24 fapi_Unit_3 rfl (.tmp rfl)⟩, ⟨mo fun cv => Op1.call Try.call77 ((slices_Clone_api_Word_api_Word_spec _ _ hv1).read fun _ _ _ => tO_tL) ⟨(.tmp rfl), trivial⟩, ⟨mo fun cv => Op1.fieldAddrB (o := 0) Try.underlying27 rfl (fun w => ⟨0, Try.sizeOf24 w⟩) (.tmp rfl) rfl, ⟨.inr ⟨fun cv => [(1, (Bx 8 true 27 (tapi_Unit.is u) b))], (AllUpTo.at ⟨⟨(fun _ _ => ⟨rfl, rfl, trivial⟩), (fun hw => absurd hw (by decide))⟩, (fun hw => absurd hw (by decide))⟩), fun cv => Op1.loadBF 1 rfl ty24 fapi_Unit_4 rfl (.tmp rfl)⟩, ⟨mo fun cv => Op1.call Try.call77 ((slices_Clone_api_Word_api_Word_spec _ _ hv2).read fun _ _ _ => tO_tL) ⟨(.tmp rfl), trivial⟩, ⟨mo fun cv => Op1.fieldAddrB (o := 0) Try.underlying27 rfl (fun w => ⟨0, Try.sizeOf24 w⟩) (.tmp rfl) rfl, ⟨.inl rfl, ⟨mo fun cv => Op1.fieldAddrB (o := 0) Try.underlying27 rfl (fun w => ⟨0, Try.sizeOf24 w⟩) (.tmp rfl) rfl, ⟨.inl rfl, trivial⟩⟩⟩⟩⟩⟩⟩⟩⟩⟩ ⟨⟨_, _, _, [1], (fun cv => [(1, (Bx 8 true 27 (tapi_Unit.is ({ u with Head := word } : api_Unit)) b))]), rfl, rfl, rfl, rfl, fun _ => rfl, fun _ _ => rfl, fun cv => OpR.viaU (OpR.storeBF (b := b) 1 rfl ty24 sapi_Unit_3 rfl (by decide) (.tmp rfl) (.tmp rfl))⟩, ⟨⟨_, _, _, [1], (fun cv => [(1, (Bx 8 true 27 (tapi_Unit.is ({ ({ u with Head := word } : api_Unit) with Words := word1 } : api_Unit)) b))]), rfl, rfl, rfl, rfl, fun _ => rfl, fun _ _ => rfl, fun cv => OpR.viaU (OpR.storeBF (b := b) 1 rfl ty24 sapi_Unit_4 rfl (by decide) (.tmp rfl) (.tmp rfl))⟩, trivial⟩⟩ (fun cv => ?_)
  refine WN.seq ?_
  refine W.sr ?_
  refine WL.addNil (t := tapi_Unit) (E := 27) 3 ?_
  refine WL.op rfl (.assign (Opd.nilO (t := tapi_Unit))) ?_
  refine WL.ns ?_
  refine W.seq ?_
  refine W.sr ?_
  refine WL.op rfl (.fieldAddrB (o := 0) Try.underlying27 rfl (fun w => ⟨0, Try.sizeOf25 w⟩) (.tmp rfl) rfl) ?_
  refine WL.op rfl (.loadBF 1 rfl ty25 fapi_Unit_5 rfl (.tmp rfl)) ?_
  refine WL.op rfl (.lenL Try.underlying25 (.tmp rfl)) ?_
  refine WL.op rfl (.move .i64) ?_
  refine WL.ns ?_
  refine W.block ?_
  obtain ⟨s3, hs4, hk5⟩ := bind_some hm
  clear hm
  refine W.loop (fun m (s : Int × List api_Unit × List api_Unit × (((List api_Unit)) × Tok)) => m = s.2.2.1.length ∧ ({ ({ u with Head := word } : api_Unit) with Words := word1 } : api_Unit).Kids = s.2.1 ++ s.2.2.1 ∧ s.1 = (s.2.1.length : Int) ∧ M.unit_copied_loop1 (M.unit_copied n) s.2.2.1 s.2.2.2.1 = some s3) (fun s => [(17, ((tI .i64).is s.1)), (3, (tO tapi_Unit s.2.2.2.2 s.2.2.2.1)), (1, (Bp b 0)), (2, (Bp b1 0)), (15, ((tL tapi_Unit).is (({ ({ u with Head := word } : api_Unit) with Words := word1 } : api_Unit).Kids))), (16, ((tI .i64).is ((({ ({ u with Head := word } : api_Unit) with Words := word1 } : api_Unit).Kids).length : Int)))]) (fun s => [(3, Dec.Own tapi_Unit 27 s.2.2.2.2 s.2.2.2.1.length), (1, (Bx 8 true 27 (tapi_Unit.is ({ ({ u with Head := word } : api_Unit) with Words := word1 } : api_Unit)) b)), (2, (Bx 8 true 27 (tapi_Unit.is zapi_Unit) b1))]) (({ ({ u with Head := word } : api_Unit) with Words := word1 } : api_Unit).Kids).length ((0 : Int), [], ({ ({ u with Head := word } : api_Unit) with Words := word1 } : api_Unit).Kids, (([] : List api_Unit), (none : Tok))) ⟨rfl, rfl, rfl, hs4⟩ ⟨Ent.q rfl, Ent.q rfl, Ent.q rfl, Ent.q rfl, Ent.q rfl, Ent.q rfl, trivial⟩ ⟨rfl, rfl, ⟨rfl, rfl, ⟨rfl, rfl, trivial⟩⟩⟩ ?_
  rintro m ⟨i, pre, rest1, ⟨kids, k⟩⟩ ⟨hn9, hxs6, hi7, hm⟩
  try dsimp only at hn9 hxs6 hi7 hm
  change W _ _ _ _ _ _ _ [(17, ((tI .i64).is i)), (3, (tO tapi_Unit k kids)), (1, (Bp b 0)), (2, (Bp b1 0)), (15, ((tL tapi_Unit).is (({ ({ u with Head := word } : api_Unit) with Words := word1 } : api_Unit).Kids))), (16, ((tI .i64).is ((({ ({ u with Head := word } : api_Unit) with Words := word1 } : api_Unit).Kids).length : Int)))] [(3, Dec.Own tapi_Unit 27 k kids.length), (1, (Bx 8 true 27 (tapi_Unit.is ({ ({ u with Head := word } : api_Unit) with Words := word1 } : api_Unit)) b)), (2, (Bx 8 true 27 (tapi_Unit.is zapi_Unit) b1))]
  refine W.lenL (s := 15) (.tmp rfl) fun hlen8 => ?_
  refine W.sr ?_
  refine WL.op rfl (.ltI (.tmp rfl) (.tmp rfl)) ?_
  refine WL.ns ?_
  refine W.seq ?_
  refine W.cond (.tmp rfl) (fun hc11 => ?_) (fun hc11 => ?_)
  ·have hp12 := of_decide_eq_true hc11
   obtain ⟨e, es, hrest14⟩ := range_more hxs6 hi7 hp12
   subst hrest14
   rw [M.unit_copied_loop1.eq_2] at hm
   refine W.skip ?_
   refine WN.seq ?_
   refine W.seq ?_
   refine W.block ?_
   refine W.sr ?_
   refine WL.op rfl (.idxPre hxs6 hi7 Try.underlying25 Try.sizeOf27 (.tmp rfl) (.tmp rfl)) ?_
   refine WL.op rfl (.load ty27 (.tmp rfl)) ?_
   refine WL.opR rfl (OpR.alloc 5 ze27) (fun b2 => ?_)
   refine WL.opU (OpR.storeB (b := b2) 5 Try.sizeOf27 (Cellable.is tapi_Unit e) rfl (.tmp rfl) (.tmp rfl)) (fun _ => ?_)
   refine WL.sealed (t := tapi_Unit) (u := e) 5 5 rfl rfl ?_
   refine WL.nr1 ?_
   refine WL.mv rfl rfl ?_
   refine WL.op rfl (.load ty27 (.tmp rfl)) ?_
   obtain ⟨copied, hv15, hm⟩ := bind_some hm
   refine WL.op rfl (.call Try.call54 (ih _ _ hv15) ⟨(.tmp rfl), trivial⟩) ?_
   refine WL.op rfl (.buildSlice (n := 1) (ys := [(0, copied)]) (z := zapi_Unit) (xs := [copied]) Try.underlying25 el27 ze27 ⟨rfl, (.tmp rfl), trivial⟩ (by simp) (by decide) rfl) ?_
   obtain ⟨kids1, hv16, hm⟩ := bind_some hm
   refine WL.opR rfl (OpR.appC (key := 3) hv16 Try.underlying25 el27 (.tmp rfl) (.tmp rfl) rfl) (fun k1 => ?_)
   refine WL.gv rfl rfl ?_
   refine WL.nil ?_
   refine WN.block ?_
   refine WN.seq ?_
   refine W.region ?_
   refine WL.op rfl (.addI (.tmp rfl) .i64 (range_inR hi7 hp12 hlen8)) ?_
   refine WL.mv rfl rfl ?_
   refine WL.nil ?_
   exact WN.again es.length (i + 1, pre ++ [e], es, (kids1, k1)) (range_lt hn9) ⟨rfl, range_step hxs6, range_idx hi7, hm⟩ ⟨Ent.q rfl, Ent.q rfl, Ent.q rfl, Ent.q rfl, Ent.q rfl, Ent.q rfl, trivial⟩ ⟨rfl, rfl, ⟨rfl, rfl, ⟨rfl, rfl, trivial⟩⟩⟩
  ·have hrest14 := range_end hxs6 hi7 (of_decide_eq_false hc11)
   subst hrest14
   rw [M.unit_copied_loop1.eq_1] at hm
   refine W.exit rfl ?_
   have hr17 := Option.some.inj hm
   clear hm
   subst hr17
   have hm := hk5
   try dsimp only at hm
   refine WN.seq ?_
   refine W.sr ?_
   refine WL.mv rfl rfl ?_
   refine WL.op rfl (.fieldAddrB (o := 0) Try.underlying27 rfl (fun w => ⟨0, Try.sizeOf25 w⟩) (.tmp rfl) rfl) ?_
   refine WL.opU (OpR.storeBF (b := b) 1 rfl ty25 sapi_Unit_5 rfl (by decide) (.tmp rfl) (Opd.own (.tmp rfl))) (fun _ => ?_)
   refine WL.nr ?_
   refine WL.op rfl (.loadB 1 Try.isAgg27 Try.sizeOf27 rfl (.tmp rfl)) ?_
   refine WL.opU (OpR.storeB (b := b1) 2 Try.sizeOf27 (Cellable.is tapi_Unit ({ ({ ({ u with Head := word } : api_Unit) with Words := word1 } : api_Unit) with Kids := kids } : api_Unit)) rfl (.tmp rfl) (.tmp rfl)) (fun _ => ?_)
   refine WL.ns ?_
   cases hm
   exact W.retQ1 () rfl (ResAt.cell 2 Try.isAgg27 Try.sizeOf27 rfl (.tmp rfl)) trivial

theorem unit_Find_spec (n : Nat) (u : api_Unit) (id : api_Id) (r : api_Unit × Bool) (hm : M.unit_Find n u id = some r) : FSpec Try.prog 31 [(tapi_Unit.is u), (tapi_Id.is id)] (Asn.tuple2 (tapi_Unit.is r.1) (tB.is r.2)) := by
 unfold M.unit_Find at hm
 refine FSpec.of Try.func31 rfl rfl rfl (fun g0 => ?_)
 refine W.sr ?_
 refine WL.op rfl (.box (.tmp rfl)) ?_
 refine WL.op rfl (.box (.tmp rfl)) ?_
 refine WL.opR rfl (OpR.alloc 4 ze27) (fun b => ?_)
 refine WL.op rfl (.assign .bool) ?_
 refine WL.nr ?_
 refine WL.op rfl (.load ty27 (.tmp rfl)) ?_
 refine WL.op rfl (.load ty23 (.tmp rfl)) ?_
 obtain ⟨way, hv1, hm⟩ := bind_some hm
 refine WL.op rfl (.call Try.call53 (unit_way_spec _ _ _ _ hv1) ⟨(.tmp rfl), (.tmp rfl), trivial⟩) ?_
 refine WL.gv rfl rfl ?_
 refine WL.ns ?_
 refine W.seq ?_
 refine W.sr ?_
 refine WL.mv rfl rfl ?_
 refine WL.op rfl (.lenL Try.underlying25 (Opd.tLn (.tmp rfl))) ?_
 refine WL.op rfl (.eqI (.tmp rfl) .i64) ?_
 refine WL.ns ?_
 refine W.cond (.tmp rfl) (fun hc2 => ?_) (fun hc2 => ?_)
 ·have hp3 := of_decide_eq_true hc2
  rw [if_pos hp3] at hm
  refine W.sr ?_
  refine WL.op rfl (.build (s := tapi_Unit) (x := (⟨zapi_Id, (0 : Int), ([] : Str), ([] : List api_Word), ([] : List api_Word), ([] : List api_Unit)⟩ : api_Unit)) zapi_Unit_f rfl Try.underlying27 (zapi_Unit_sz _ Try.underlying27) ze27 rfl) ?_
  refine WL.opU (OpR.storeB (b := b) 4 Try.sizeOf27 (Cellable.is tapi_Unit (⟨zapi_Id, (0 : Int), ([] : Str), ([] : List api_Word), ([] : List api_Word), ([] : List api_Unit)⟩ : api_Unit)) rfl (.tmp rfl) (.tmp rfl)) (fun _ => ?_)
  refine WL.op rfl (.assign .bool) ?_
  refine WL.ns ?_
  cases hm
  exact W.retQ2 () rfl rfl (ResAt.cell 4 Try.isAgg27 Try.sizeOf27 rfl (.tmp rfl)) (ResAt.tmp (.tmp rfl)) trivial
 ·have hp3 := of_decide_eq_false hc2
  rw [if_neg hp3] at hm
  refine W.skip ?_
  refine WN.seq ?_
  refine W.sr ?_
  refine WL.mv rfl rfl ?_
  refine WL.mv rfl rfl ?_
  refine WL.op rfl (.lenL Try.underlying25 (Opd.tLn (.tmp rfl))) ?_
  obtain ⟨v, hv4, hm⟩ := bind_some hm
  refine WL.op rfl (.subC hv4 (.tmp rfl) .i64) ?_
  obtain ⟨v1, hv5, hm⟩ := bind_some hm
  refine WL.op rfl (.idx hv5 Try.underlying25 Try.sizeOf27 (Opd.tLn (.tmp rfl)) (.tmp rfl)) ?_
  refine WL.op rfl (.load ty27 (.tmp rfl)) ?_
  obtain ⟨copied, hv6, hm⟩ := bind_some hm
  refine WL.op rfl (.call Try.call54 (unit_copied_spec _ _ _ hv6) ⟨(.tmp rfl), trivial⟩) ?_
  refine WL.opU (OpR.storeB (b := b) 4 Try.sizeOf27 (Cellable.is tapi_Unit copied) rfl (.tmp rfl) (.tmp rfl)) (fun _ => ?_)
  refine WL.op rfl (.assign .bool) ?_
  refine WL.ns ?_
  cases hm
  exact W.retQ2 () rfl rfl (ResAt.cell 4 Try.isAgg27 Try.sizeOf27 rfl (.tmp rfl)) (ResAt.tmp (.tmp rfl)) trivial

theorem resolve_row_spec (n : Nat) (u : api_Unit) (id : api_Id) (r : api_Unit × Int × Bool) (hm : M.resolve_row n u id = some r) : FSpec Try.prog 34 [(tapi_Unit.is u), (tapi_Id.is id)] (Asn.tuple3 (tapi_Unit.is r.1) ((tI .i64).is r.2.1) (tB.is r.2.2)) := by
 unfold M.resolve_row at hm
 refine FSpec.of Try.func34 rfl rfl rfl (fun g0 => ?_)
 refine W.sr ?_
 refine WL.op rfl (.box (.tmp rfl)) ?_
 refine WL.op rfl (.box (.tmp rfl)) ?_
 refine WL.opR rfl (OpR.alloc 4 ze27) (fun b => ?_)
 refine WL.op rfl (.assign .i64) ?_
 refine WL.op rfl (.assign .bool) ?_
 refine WL.nr ?_
 refine WL.op rfl (.load ty27 (.tmp rfl)) ?_
 refine WL.op rfl (.load ty23 (.tmp rfl)) ?_
 obtain ⟨parent, hv1, hm⟩ := bind_some hm
 refine WL.op rfl (.call Try.call55 (unit_Parent_spec _ _ _ _ hv1) ⟨(.tmp rfl), (.tmp rfl), trivial⟩) ?_
 refine WL.mv rfl rfl ?_
 refine WL.op rfl (.extract30 (.tmp rfl)) ?_
 refine WL.op rfl (.extract31 (.tmp rfl)) ?_
 refine WL.op rfl (.extract32 (.tmp rfl)) ?_
 refine WL.opR rfl (OpR.alloc 7 ze23) (fun b1 => ?_)
 refine WL.opU (OpR.storeB (b := b1) 7 Try.sizeOf23 (Cellable.is tapi_Id parent.1) rfl (.tmp rfl) (.tmp rfl)) (fun _ => ?_)
 refine WL.sealed (t := tapi_Id) (u := parent.1) 7 7 rfl rfl ?_
 refine WL.gv rfl rfl ?_
 refine WL.gv rfl rfl ?_
 refine WL.nr ?_
 refine WL.op rfl (.load ty27 (.tmp rfl)) ?_
 refine WL.op rfl (.load ty23 (.tmp rfl)) ?_
 obtain ⟨find, hv2, hm⟩ := bind_some hm
 refine WL.op rfl (.call Try.call31 (unit_Find_spec _ _ _ _ hv2) ⟨(.tmp rfl), (.tmp rfl), trivial⟩) ?_
 refine WL.mv rfl rfl ?_
 refine WL.op rfl (.extract0 (.tmp rfl)) ?_
 refine WL.op rfl (.extract1 (.tmp rfl)) ?_
 refine WL.opR rfl (OpR.alloc 10 ze27) (fun b2 => ?_)
 refine WL.opU (OpR.storeB (b := b2) 10 Try.sizeOf27 (Cellable.is tapi_Unit find.1) rfl (.tmp rfl) (.tmp rfl)) (fun _ => ?_)
 refine WL.sealed (t := tapi_Unit) (u := find.1) 10 10 rfl rfl ?_
 refine WL.gv rfl rfl ?_
 refine WL.nr ?_
 refine WL.op rfl (.load ty27 (.tmp rfl)) ?_
 refine WL.mv rfl rfl ?_
 refine WL.mv rfl rfl ?_
 refine WL.opU (OpR.storeB (b := b) 4 Try.sizeOf27 (Cellable.is tapi_Unit find.1) rfl (.tmp rfl) (.tmp rfl)) (fun _ => ?_)
 refine WL.gv rfl rfl ?_
 refine WL.gv rfl rfl ?_
 refine WL.ns ?_
 cases hm
 exact W.retQ3 () rfl rfl (ResAt.cell 4 Try.isAgg27 Try.sizeOf27 rfl (.tmp rfl)) (ResAt.tmp (.tmp rfl)) (ResAt.tmp (.tmp rfl)) trivial

theorem resolve_through_1_spec (x : api_Unit) (c : api_Unit) (c1 : Int) (c2 : api_Cite) (r : Bool) (hm : M.resolve_through_1 x c c1 c2 = some r) : FSpec Try.prog 64 [(tapi_Unit.is x), (tapi_Unit.ptr c), ((tI .i64).ptr c1), (tapi_Cite.ptr c2)] (tB.is r) := by
 unfold M.resolve_through_1 at hm
 refine FSpec.of Try.func64 rfl rfl rfl (fun g0 => ?_)
 refine W.sr ?_
 refine WL.op rfl (.box (.tmp rfl)) ?_
 refine WL.op rfl (.assign .bool) ?_
 refine WL.ns ?_
 refine W.seq ?_
 obtain ⟨v, hv1, hm⟩ := bind_some hm
 rcases bcases (decide (x.Kind = v.Kind)) with hb2 | hb2
 ·have hp3 := of_decide_eq_true hb2
  rw [if_pos hp3] at hm
  refine W.draw [.c ((tI .i64).ptr x.Kind), .c ((tI .i64).is x.Kind), .c ((tL tapi_Unit).ptr c.Kids), .c ((tL tapi_Unit).is c.Kids), .c ((tI .i64).is c1), .c (tapi_Unit.ptr v), .c ((tI .i64).ptr v.Kind), .c ((tI .i64).is v.Kind), .c (tB.is (decide (x.Kind = v.Kind))), .c (tB.is (decide (x.Kind = v.Kind))), .c (tS.ptr x.Label), .c (tS.is x.Label), .c (tS.ptr c2.To), .c (tS.is c2.To), .c (tB.is (x.Label == c2.To)), .c (tB.is (x.Label == c2.To)), .c (tB.is (x.Label == c2.To))] [([], [4]), ([0], []), ([], [1]), ([2], []), ([], [2]), ([3, 4], []), ([5], []), ([6], []), ([1, 7], []), ([8], []), ([9], [4]), ([9, 10], []), ([9], [3]), ([9, 12], []), ([9, 11, 13], []), ([9, 14], []), ([15], [])] Try.mixed rfl rfl rfl rfl ⟨.inr (Op1.fieldAddr Try.underlying27 rfl (fun w => ⟨0, Try.sizeOf3 w⟩) fapi_Unit_1 (.tmp rfl)), .inr (Op1.load ty3 (.tmp rfl)), .inr (Op1.fieldAddr Try.underlying27 rfl (fun w => ⟨0, Try.sizeOf25 w⟩) fapi_Unit_5 (.tmp rfl)), .inr (Op1.load ty25 (.tmp rfl)), .inr (Op1.load ty3 (.tmp rfl)), .inr (Op1.idx hv1 Try.underlying25 Try.sizeOf27 (.tmp rfl) (.tmp rfl)), .inr (Op1.fieldAddr Try.underlying27 rfl (fun w => ⟨0, Try.sizeOf3 w⟩) fapi_Unit_1 (.tmp rfl)), .inr (Op1.load ty3 (.tmp rfl)), .inr (Op1.eqI (.tmp rfl) (.tmp rfl)), .inr (Op1.move (.tmp rfl)), .inr (dr rfl rfl rfl hb2 (Op1.fieldAddr Try.underlying27 rfl (fun w => ⟨0, Try.sizeOf9 w⟩) fapi_Unit_2 (.tmp rfl))), .inr (dr rfl rfl rfl hb2 (Op1.load ty9 (.tmp rfl))), .inr (dr rfl rfl rfl hb2 (Op1.fieldAddr Try.underlying30 rfl (fun w => ⟨0, Try.sizeOf9 w⟩) fapi_Cite_2 (.tmp rfl))), .inr (dr rfl rfl rfl hb2 (Op1.load ty9 (.tmp rfl))), .inr (dr rfl rfl rfl hb2 (Op1.eqS (.tmp rfl) (.tmp rfl))), .inr (Op1.pickT (.tmp rfl) hb2 (.tmp rfl)), .inr (Op1.assign (.tmp rfl)), trivial⟩ ?_
  refine WN.seq ?_
  cases hm
  exact W.ret1 () rfl (.tmp rfl) trivial
 ·have hp3 := of_decide_eq_false hb2
  rw [if_neg hp3] at hm
  refine W.draw [.c ((tI .i64).ptr x.Kind), .c ((tI .i64).is x.Kind), .c ((tL tapi_Unit).ptr c.Kids), .c ((tL tapi_Unit).is c.Kids), .c ((tI .i64).is c1), .c (tapi_Unit.ptr v), .c ((tI .i64).ptr v.Kind), .c ((tI .i64).is v.Kind), .c (tB.is (decide (x.Kind = v.Kind))), .c (tB.is (decide (x.Kind = v.Kind))), .c (Asn.eq undef), .c (Asn.eq undef), .c (Asn.eq undef), .c (Asn.eq undef), .c (Asn.eq undef), .c (tB.is false), .c (tB.is false)] [([], [4]), ([0], []), ([], [1]), ([2], []), ([], [2]), ([3, 4], []), ([5], []), ([6], []), ([1, 7], []), ([8], []), ([9], [4]), ([9, 10], []), ([9], [3]), ([9, 12], []), ([9, 11, 13], []), ([9, 14], []), ([15], [])] Try.mixed rfl rfl rfl rfl ⟨.inr (Op1.fieldAddr Try.underlying27 rfl (fun w => ⟨0, Try.sizeOf3 w⟩) fapi_Unit_1 (.tmp rfl)), .inr (Op1.load ty3 (.tmp rfl)), .inr (Op1.fieldAddr Try.underlying27 rfl (fun w => ⟨0, Try.sizeOf25 w⟩) fapi_Unit_5 (.tmp rfl)), .inr (Op1.load ty25 (.tmp rfl)), .inr (Op1.load ty3 (.tmp rfl)), .inr (Op1.idx hv1 Try.underlying25 Try.sizeOf27 (.tmp rfl) (.tmp rfl)), .inr (Op1.fieldAddr Try.underlying27 rfl (fun w => ⟨0, Try.sizeOf3 w⟩) fapi_Unit_1 (.tmp rfl)), .inr (Op1.load ty3 (.tmp rfl)), .inr (Op1.eqI (.tmp rfl) (.tmp rfl)), .inr (Op1.move (.tmp rfl)), .inr (dp rfl rfl rfl hb2), .inr (dp rfl rfl rfl hb2), .inr (dp rfl rfl rfl hb2), .inr (dp rfl rfl rfl hb2), .inr (dp rfl rfl rfl hb2), .inr (Op1.pickF (.tmp rfl) hb2 .bool), .inr (Op1.assign (.tmp rfl)), trivial⟩ ?_
  refine WN.seq ?_
  cases hm
  exact W.ret1 () rfl (.tmp rfl) trivial

theorem resolve_Between_spec (n : Nat) (u : api_Unit) (a : api_Id) (b : api_Id) (r : (List api_Id)) (hm : M.resolve_Between n u a b = some r) : FSpec Try.prog 15 [(tapi_Unit.is u), (tapi_Id.is a), (tapi_Id.is b)] ((tL tapi_Id).is r) := by
 unfold M.resolve_Between at hm
 refine FSpec.of Try.func15 rfl rfl rfl (fun g0 => ?_)
 refine W.sr ?_
 refine WL.op rfl (.box (.tmp rfl)) ?_
 refine WL.op rfl (.box (.tmp rfl)) ?_
 refine WL.op rfl (.box (.tmp rfl)) ?_
 refine WL.op rfl (.assign (.nil (t := tapi_Id))) ?_
 refine WL.nr ?_
 refine WL.op rfl (.load ty27 (.tmp rfl)) ?_
 refine WL.op rfl (.load ty23 (.tmp rfl)) ?_
 obtain ⟨row, hv1, hm⟩ := bind_some hm
 refine WL.op rfl (.call Try.call34 (resolve_row_spec _ _ _ _ hv1) ⟨(.tmp rfl), (.tmp rfl), trivial⟩) ?_
 refine WL.mv rfl rfl ?_
 refine WL.op rfl (.extract30 (.tmp rfl)) ?_
 refine WL.op rfl (.extract31 (.tmp rfl)) ?_
 refine WL.op rfl (.extract32 (.tmp rfl)) ?_
 refine WL.opR rfl (OpR.alloc 7 ze27) (fun b1 => ?_)
 refine WL.opU (OpR.storeB (b := b1) 7 Try.sizeOf27 (Cellable.is tapi_Unit row.1) rfl (.tmp rfl) (.tmp rfl)) (fun _ => ?_)
 refine WL.sealed (t := tapi_Unit) (u := row.1) 7 7 rfl rfl ?_
 refine WL.gv rfl rfl ?_
 refine WL.gv rfl rfl ?_
 refine WL.nr ?_
 refine WL.op rfl (.load ty27 (.tmp rfl)) ?_
 refine WL.op rfl (.load ty23 (.tmp rfl)) ?_
 obtain ⟨row1, hv2, hm⟩ := bind_some hm
 refine WL.op rfl (.call Try.call34 (resolve_row_spec _ _ _ _ hv2) ⟨(.tmp rfl), (.tmp rfl), trivial⟩) ?_
 refine WL.mv rfl rfl ?_
 refine WL.op rfl (.extract30 (.tmp rfl)) ?_
 refine WL.op rfl (.extract31 (.tmp rfl)) ?_
 refine WL.op rfl (.extract32 (.tmp rfl)) ?_
 refine WL.opR rfl (OpR.alloc 10 ze27) (fun b2 => ?_)
 refine WL.opU (OpR.storeB (b := b2) 10 Try.sizeOf27 (Cellable.is tapi_Unit row1.1) rfl (.tmp rfl) (.tmp rfl)) (fun _ => ?_)
 refine WL.sealed (t := tapi_Unit) (u := row1.1) 10 10 rfl rfl ?_
 refine WL.gv rfl rfl ?_
 refine WL.gv rfl rfl ?_
 refine WL.ns ?_
 refine W.seq ?_
 refine W.seq ?_
 rcases bcases (!row.2.2) with hb3 | hb3
 ·have hp4 := not_pos hb3
  rw [if_pos hp4] at hm
  refine W.draw [.c (tB.is row.2.2), .c (tB.is (!row.2.2)), .c (tB.is (!row.2.2)), .c (Asn.eq undef), .c (Asn.eq undef), .c (tB.is true), .c (tB.is true), .c (Asn.eq undef), .c (Asn.eq undef), .c (Asn.eq undef), .c (Asn.eq undef), .c (Asn.eq undef), .c (tB.is true), .c (tB.is true), .c (Asn.eq undef), .c (Asn.eq undef), .c (Asn.eq undef), .c (tB.is true), .c (tB.is true), .c (Asn.eq undef), .c (Asn.eq undef), .c (Asn.eq undef), .c (Asn.eq undef), .c (Asn.eq undef), .c (Asn.eq undef), .c (Asn.eq undef), .c (Asn.eq undef), .c (Asn.eq undef), .c (Asn.eq undef), .c (Asn.eq undef), .c (Asn.eq undef), .c (Asn.eq undef), .c (tB.is true)] [([], [9]), ([0], []), ([1], []), ([2], [12]), ([2, 3], []), ([2, 4], []), ([5], []), ([6], [7]), ([6, 7], []), ([6], [10]), ([6, 9], []), ([6, 8, 10], []), ([6, 11], []), ([12], []), ([13], [11]), ([13], [8]), ([13, 14, 15], []), ([13, 16], []), ([17], []), ([18], [7]), ([18, 19], []), ([18], [8]), ([18, 20, 21], []), ([18, 22], []), ([18, 23], []), ([18], [7]), ([18, 25], []), ([18], [11]), ([18, 26, 27], []), ([18, 28], []), ([18, 29], []), ([18, 24, 30], []), ([18, 31], [])] Try.mixed rfl rfl rfl rfl (by exact ⟨.inr (Op1.move (.tmp rfl)), .inr (Op1.notB (.tmp rfl)), .inr (Op1.move (.tmp rfl)), .inr (dp rfl rfl rfl hb3), .inr (dp rfl rfl rfl hb3), .inr (Op1.pickT (.tmp rfl) hb3 .bool), .inr (Op1.move (.tmp rfl)), .inr (dp rfl rfl rfl rfl), .inr (dp rfl rfl rfl rfl), .inr (dp rfl rfl rfl rfl), .inr (dp rfl rfl rfl rfl), .inr (dp rfl rfl rfl rfl), .inr (Op1.pickT (.tmp rfl) rfl .bool), .inr (Op1.move (.tmp rfl)), .inr (dp rfl rfl rfl rfl), .inr (dp rfl rfl rfl rfl), .inr (dp rfl rfl rfl rfl), .inr (Op1.pickT (.tmp rfl) rfl .bool), .inr (Op1.move (.tmp rfl)), .inr (dp rfl rfl rfl rfl), .inr (dp rfl rfl rfl rfl), .inr (dp rfl rfl rfl rfl), .inr (dp rfl rfl rfl rfl), .inr (dp rfl rfl rfl rfl), .inr (dp rfl rfl rfl rfl), .inr (dp rfl rfl rfl rfl), .inr (dp rfl rfl rfl rfl), .inr (dp rfl rfl rfl rfl), .inr (dp rfl rfl rfl rfl), .inr (dp rfl rfl rfl rfl), .inr (dp rfl rfl rfl rfl), .inr (dp rfl rfl rfl rfl), .inr (Op1.pickT (.tmp rfl) rfl .bool), trivial⟩) ?_
  refine WN.seq ?_
  refine W.condT (.tmp rfl) ?_
  refine W.sr ?_
  refine WL.op rfl (.assign (.nil (t := tapi_Id))) ?_
  refine WL.ns ?_
  cases hm
  exact W.ret1 () rfl (.tmp rfl) trivial
 ·have hp4 := not_neg hb3
  rw [if_neg hp4] at hm
  rcases bcases (!row1.2.2) with hb5 | hb5
  ·have hp6 := not_pos hb5
   rw [if_pos hp6] at hm
   refine W.draw [.c (tB.is row.2.2), .c (tB.is (!row.2.2)), .c (tB.is (!row.2.2)), .c (tB.is row1.2.2), .c (tB.is (!row1.2.2)), .c (tB.is (!row1.2.2)), .c (tB.is (!row1.2.2)), .c (Asn.eq undef), .c (Asn.eq undef), .c (Asn.eq undef), .c (Asn.eq undef), .c (Asn.eq undef), .c (tB.is true), .c (tB.is true), .c (Asn.eq undef), .c (Asn.eq undef), .c (Asn.eq undef), .c (tB.is true), .c (tB.is true), .c (Asn.eq undef), .c (Asn.eq undef), .c (Asn.eq undef), .c (Asn.eq undef), .c (Asn.eq undef), .c (Asn.eq undef), .c (Asn.eq undef), .c (Asn.eq undef), .c (Asn.eq undef), .c (Asn.eq undef), .c (Asn.eq undef), .c (Asn.eq undef), .c (Asn.eq undef), .c (tB.is true)] [([], [9]), ([0], []), ([1], []), ([2], [12]), ([2, 3], []), ([2, 4], []), ([5], []), ([6], [7]), ([6, 7], []), ([6], [10]), ([6, 9], []), ([6, 8, 10], []), ([6, 11], []), ([12], []), ([13], [11]), ([13], [8]), ([13, 14, 15], []), ([13, 16], []), ([17], []), ([18], [7]), ([18, 19], []), ([18], [8]), ([18, 20, 21], []), ([18, 22], []), ([18, 23], []), ([18], [7]), ([18, 25], []), ([18], [11]), ([18, 26, 27], []), ([18, 28], []), ([18, 29], []), ([18, 24, 30], []), ([18, 31], [])] Try.mixed rfl rfl rfl rfl (by exact ⟨.inr (Op1.move (.tmp rfl)), .inr (Op1.notB (.tmp rfl)), .inr (Op1.move (.tmp rfl)), .inr (dr rfl rfl rfl hb3 (Op1.move (.tmp rfl))), .inr (dr rfl rfl rfl hb3 (Op1.notB (.tmp rfl))), .inr (Op1.pickF (.tmp rfl) hb3 (.tmp rfl)), .inr (Op1.move (.tmp rfl)), .inr (dp rfl rfl rfl hb5), .inr (dp rfl rfl rfl hb5), .inr (dp rfl rfl rfl hb5), .inr (dp rfl rfl rfl hb5), .inr (dp rfl rfl rfl hb5), .inr (Op1.pickT (.tmp rfl) hb5 .bool), .inr (Op1.move (.tmp rfl)), .inr (dp rfl rfl rfl rfl), .inr (dp rfl rfl rfl rfl), .inr (dp rfl rfl rfl rfl), .inr (Op1.pickT (.tmp rfl) rfl .bool), .inr (Op1.move (.tmp rfl)), .inr (dp rfl rfl rfl rfl), .inr (dp rfl rfl rfl rfl), .inr (dp rfl rfl rfl rfl), .inr (dp rfl rfl rfl rfl), .inr (dp rfl rfl rfl rfl), .inr (dp rfl rfl rfl rfl), .inr (dp rfl rfl rfl rfl), .inr (dp rfl rfl rfl rfl), .inr (dp rfl rfl rfl rfl), .inr (dp rfl rfl rfl rfl), .inr (dp rfl rfl rfl rfl), .inr (dp rfl rfl rfl rfl), .inr (dp rfl rfl rfl rfl), .inr (Op1.pickT (.tmp rfl) rfl .bool), trivial⟩) ?_
   refine WN.seq ?_
   refine W.condT (.tmp rfl) ?_
   refine W.sr ?_
   refine WL.op rfl (.assign (.nil (t := tapi_Id))) ?_
   refine WL.ns ?_
   cases hm
   exact W.ret1 () rfl (.tmp rfl) trivial
  ·have hp6 := not_neg hb5
   rw [if_neg hp6] at hm
   rcases bcases (decide (row.1.Id ≠ row1.1.Id)) with hb7 | hb7
   ·have hp8 := of_decide_eq_true hb7
    rw [if_pos hp8] at hm
    refine W.draw [.c (tB.is row.2.2), .c (tB.is (!row.2.2)), .c (tB.is (!row.2.2)), .c (tB.is row1.2.2), .c (tB.is (!row1.2.2)), .c (tB.is (!row1.2.2)), .c (tB.is (!row1.2.2)), .c (tapi_Id.ptr row.1.Id), .c (tapi_Id.is row.1.Id), .c (tapi_Id.ptr row1.1.Id), .c (tapi_Id.is row1.1.Id), .c (tB.is (decide (row.1.Id ≠ row1.1.Id))), .c (tB.is (decide (row.1.Id ≠ row1.1.Id))), .c (tB.is (decide (row.1.Id ≠ row1.1.Id))), .c (Asn.eq undef), .c (Asn.eq undef), .c (Asn.eq undef), .c (tB.is true), .c (tB.is true), .c (Asn.eq undef), .c (Asn.eq undef), .c (Asn.eq undef), .c (Asn.eq undef), .c (Asn.eq undef), .c (Asn.eq undef), .c (Asn.eq undef), .c (Asn.eq undef), .c (Asn.eq undef), .c (Asn.eq undef), .c (Asn.eq undef), .c (Asn.eq undef), .c (Asn.eq undef), .c (tB.is true)] [([], [9]), ([0], []), ([1], []), ([2], [12]), ([2, 3], []), ([2, 4], []), ([5], []), ([6], [7]), ([6, 7], []), ([6], [10]), ([6, 9], []), ([6, 8, 10], []), ([6, 11], []), ([12], []), ([13], [11]), ([13], [8]), ([13, 14, 15], []), ([13, 16], []), ([17], []), ([18], [7]), ([18, 19], []), ([18], [8]), ([18, 20, 21], []), ([18, 22], []), ([18, 23], []), ([18], [7]), ([18, 25], []), ([18], [11]), ([18, 26, 27], []), ([18, 28], []), ([18, 29], []), ([18, 24, 30], []), ([18, 31], [])] Try.mixed rfl rfl rfl rfl (by exact ⟨.inr (Op1.move (.tmp rfl)), .inr (Op1.notB (.tmp rfl)), .inr (Op1.move (.tmp rfl)), .inr (dr rfl rfl rfl hb3 (Op1.move (.tmp rfl))), .inr (dr rfl rfl rfl hb3 (Op1.notB (.tmp rfl))), .inr (Op1.pickF (.tmp rfl) hb3 (.tmp rfl)), .inr (Op1.move (.tmp rfl)), .inr (dr rfl rfl rfl hb5 (Op1.fieldAddr Try.underlying27 rfl (fun w => ⟨2, Try.sizeOf23 w⟩) fapi_Unit_0 (.tmp rfl))), .inr (dr rfl rfl rfl hb5 (Op1.load ty23 (.tmp rfl))), .inr (dr rfl rfl rfl hb5 (Op1.fieldAddr Try.underlying27 rfl (fun w => ⟨2, Try.sizeOf23 w⟩) fapi_Unit_0 (.tmp rfl))), .inr (dr rfl rfl rfl hb5 (Op1.load ty23 (.tmp rfl))), .inr (dr rfl rfl rfl hb5 (Op1.neSt (D := 2) rfl (by decide) eg23 eq23 (.tmp rfl) (.tmp rfl))), .inr (Op1.pickF (.tmp rfl) hb5 (.tmp rfl)), .inr (Op1.move (.tmp rfl)), .inr (dp rfl rfl rfl hb7), .inr (dp rfl rfl rfl hb7), .inr (dp rfl rfl rfl hb7), .inr (Op1.pickT (.tmp rfl) hb7 .bool), .inr (Op1.move (.tmp rfl)), .inr (dp rfl rfl rfl rfl), .inr (dp rfl rfl rfl rfl), .inr (dp rfl rfl rfl rfl), .inr (dp rfl rfl rfl rfl), .inr (dp rfl rfl rfl rfl), .inr (dp rfl rfl rfl rfl), .inr (dp rfl rfl rfl rfl), .inr (dp rfl rfl rfl rfl), .inr (dp rfl rfl rfl rfl), .inr (dp rfl rfl rfl rfl), .inr (dp rfl rfl rfl rfl), .inr (dp rfl rfl rfl rfl), .inr (dp rfl rfl rfl rfl), .inr (Op1.pickT (.tmp rfl) rfl .bool), trivial⟩) ?_
    refine WN.seq ?_
    refine W.condT (.tmp rfl) ?_
    refine W.sr ?_
    refine WL.op rfl (.assign (.nil (t := tapi_Id))) ?_
    refine WL.ns ?_
    cases hm
    exact W.ret1 () rfl (.tmp rfl) trivial
   ·have hp8 := of_decide_eq_false hb7
    rw [if_neg hp8] at hm
    rcases bcases (decide (row1.2.1 < row.2.1)) with hb9 | hb9
    ·have hp10 := of_decide_eq_true hb9
     rw [if_pos hp10] at hm
     refine W.draw [.c (tB.is row.2.2), .c (tB.is (!row.2.2)), .c (tB.is (!row.2.2)), .c (tB.is row1.2.2), .c (tB.is (!row1.2.2)), .c (tB.is (!row1.2.2)), .c (tB.is (!row1.2.2)), .c (tapi_Id.ptr row.1.Id), .c (tapi_Id.is row.1.Id), .c (tapi_Id.ptr row1.1.Id), .c (tapi_Id.is row1.1.Id), .c (tB.is (decide (row.1.Id ≠ row1.1.Id))), .c (tB.is (decide (row.1.Id ≠ row1.1.Id))), .c (tB.is (decide (row.1.Id ≠ row1.1.Id))), .c ((tI .i64).is row1.2.1), .c ((tI .i64).is row.2.1), .c (tB.is (decide (row1.2.1 < row.2.1))), .c (tB.is (decide (row1.2.1 < row.2.1))), .c (tB.is (decide (row1.2.1 < row.2.1))), .c (Asn.eq undef), .c (Asn.eq undef), .c (Asn.eq undef), .c (Asn.eq undef), .c (Asn.eq undef), .c (Asn.eq undef), .c (Asn.eq undef), .c (Asn.eq undef), .c (Asn.eq undef), .c (Asn.eq undef), .c (Asn.eq undef), .c (Asn.eq undef), .c (Asn.eq undef), .c (tB.is true)] [([], [9]), ([0], []), ([1], []), ([2], [12]), ([2, 3], []), ([2, 4], []), ([5], []), ([6], [7]), ([6, 7], []), ([6], [10]), ([6, 9], []), ([6, 8, 10], []), ([6, 11], []), ([12], []), ([13], [11]), ([13], [8]), ([13, 14, 15], []), ([13, 16], []), ([17], []), ([18], [7]), ([18, 19], []), ([18], [8]), ([18, 20, 21], []), ([18, 22], []), ([18, 23], []), ([18], [7]), ([18, 25], []), ([18], [11]), ([18, 26, 27], []), ([18, 28], []), ([18, 29], []), ([18, 24, 30], []), ([18, 31], [])] Try.mixed rfl rfl rfl rfl (by exact ⟨.inr (Op1.move (.tmp rfl)), .inr (Op1.notB (.tmp rfl)), .inr (Op1.move (.tmp rfl)), .inr (dr rfl rfl rfl hb3 (Op1.move (.tmp rfl))), .inr (dr rfl rfl rfl hb3 (Op1.notB (.tmp rfl))), .inr (Op1.pickF (.tmp rfl) hb3 (.tmp rfl)), .inr (Op1.move (.tmp rfl)), .inr (dr rfl rfl rfl hb5 (Op1.fieldAddr Try.underlying27 rfl (fun w => ⟨2, Try.sizeOf23 w⟩) fapi_Unit_0 (.tmp rfl))), .inr (dr rfl rfl rfl hb5 (Op1.load ty23 (.tmp rfl))), .inr (dr rfl rfl rfl hb5 (Op1.fieldAddr Try.underlying27 rfl (fun w => ⟨2, Try.sizeOf23 w⟩) fapi_Unit_0 (.tmp rfl))), .inr (dr rfl rfl rfl hb5 (Op1.load ty23 (.tmp rfl))), .inr (dr rfl rfl rfl hb5 (Op1.neSt (D := 2) rfl (by decide) eg23 eq23 (.tmp rfl) (.tmp rfl))), .inr (Op1.pickF (.tmp rfl) hb5 (.tmp rfl)), .inr (Op1.move (.tmp rfl)), .inr (dr rfl rfl rfl hb7 (Op1.move (.tmp rfl))), .inr (dr rfl rfl rfl hb7 (Op1.move (.tmp rfl))), .inr (dr rfl rfl rfl hb7 (Op1.ltI (.tmp rfl) (.tmp rfl))), .inr (Op1.pickF (.tmp rfl) hb7 (.tmp rfl)), .inr (Op1.move (.tmp rfl)), .inr (dp rfl rfl rfl hb9), .inr (dp rfl rfl rfl hb9), .inr (dp rfl rfl rfl hb9), .inr (dp rfl rfl rfl hb9), .inr (dp rfl rfl rfl hb9), .inr (dp rfl rfl rfl hb9), .inr (dp rfl rfl rfl hb9), .inr (dp rfl rfl rfl hb9), .inr (dp rfl rfl rfl hb9), .inr (dp rfl rfl rfl hb9), .inr (dp rfl rfl rfl hb9), .inr (dp rfl rfl rfl hb9), .inr (dp rfl rfl rfl hb9), .inr (Op1.pickT (.tmp rfl) hb9 .bool), trivial⟩) ?_
     refine WN.seq ?_
     refine W.condT (.tmp rfl) ?_
     refine W.sr ?_
     refine WL.op rfl (.assign (.nil (t := tapi_Id))) ?_
     refine WL.ns ?_
     cases hm
     exact W.ret1 () rfl (.tmp rfl) trivial
    ·have hp10 := of_decide_eq_false hb9
     rw [if_neg hp10] at hm
     obtain ⟨v, hv11, hm⟩ := bind_some hm
     obtain ⟨v1, hv12, hm⟩ := bind_some hm
     refine W.draw [.c (tB.is row.2.2), .c (tB.is (!row.2.2)), .c (tB.is (!row.2.2)), .c (tB.is row1.2.2), .c (tB.is (!row1.2.2)), .c (tB.is (!row1.2.2)), .c (tB.is (!row1.2.2)), .c (tapi_Id.ptr row.1.Id), .c (tapi_Id.is row.1.Id), .c (tapi_Id.ptr row1.1.Id), .c (tapi_Id.is row1.1.Id), .c (tB.is (decide (row.1.Id ≠ row1.1.Id))), .c (tB.is (decide (row.1.Id ≠ row1.1.Id))), .c (tB.is (decide (row.1.Id ≠ row1.1.Id))), .c ((tI .i64).is row1.2.1), .c ((tI .i64).is row.2.1), .c (tB.is (decide (row1.2.1 < row.2.1))), .c (tB.is (decide (row1.2.1 < row.2.1))), .c (tB.is (decide (row1.2.1 < row.2.1))), .c ((tL tapi_Unit).ptr row.1.Kids), .c ((tL tapi_Unit).is row.1.Kids), .c ((tI .i64).is row.2.1), .c (tapi_Unit.ptr v), .c ((tI .i64).ptr v.Kind), .c ((tI .i64).is v.Kind), .c ((tL tapi_Unit).ptr row.1.Kids), .c ((tL tapi_Unit).is row.1.Kids), .c ((tI .i64).is row1.2.1), .c (tapi_Unit.ptr v1), .c ((tI .i64).ptr v1.Kind), .c ((tI .i64).is v1.Kind), .c (tB.is (decide (v.Kind ≠ v1.Kind))), .c (tB.is (decide (v.Kind ≠ v1.Kind)))] [([], [9]), ([0], []), ([1], []), ([2], [12]), ([2, 3], []), ([2, 4], []), ([5], []), ([6], [7]), ([6, 7], []), ([6], [10]), ([6, 9], []), ([6, 8, 10], []), ([6, 11], []), ([12], []), ([13], [11]), ([13], [8]), ([13, 14, 15], []), ([13, 16], []), ([17], []), ([18], [7]), ([18, 19], []), ([18], [8]), ([18, 20, 21], []), ([18, 22], []), ([18, 23], []), ([18], [7]), ([18, 25], []), ([18], [11]), ([18, 26, 27], []), ([18, 28], []), ([18, 29], []), ([18, 24, 30], []), ([18, 31], [])] Try.mixed rfl rfl rfl rfl (by exact ⟨.inr (Op1.move (.tmp rfl)), .inr (Op1.notB (.tmp rfl)), .inr (Op1.move (.tmp rfl)), .inr (dr rfl rfl rfl hb3 (Op1.move (.tmp rfl))), .inr (dr rfl rfl rfl hb3 (Op1.notB (.tmp rfl))), .inr (Op1.pickF (.tmp rfl) hb3 (.tmp rfl)), .inr (Op1.move (.tmp rfl)), .inr (dr rfl rfl rfl hb5 (Op1.fieldAddr Try.underlying27 rfl (fun w => ⟨2, Try.sizeOf23 w⟩) fapi_Unit_0 (.tmp rfl))), .inr (dr rfl rfl rfl hb5 (Op1.load ty23 (.tmp rfl))), .inr (dr rfl rfl rfl hb5 (Op1.fieldAddr Try.underlying27 rfl (fun w => ⟨2, Try.sizeOf23 w⟩) fapi_Unit_0 (.tmp rfl))), .inr (dr rfl rfl rfl hb5 (Op1.load ty23 (.tmp rfl))), .inr (dr rfl rfl rfl hb5 (Op1.neSt (D := 2) rfl (by decide) eg23 eq23 (.tmp rfl) (.tmp rfl))), .inr (Op1.pickF (.tmp rfl) hb5 (.tmp rfl)), .inr (Op1.move (.tmp rfl)), .inr (dr rfl rfl rfl hb7 (Op1.move (.tmp rfl))), .inr (dr rfl rfl rfl hb7 (Op1.move (.tmp rfl))), .inr (dr rfl rfl rfl hb7 (Op1.ltI (.tmp rfl) (.tmp rfl))), .inr (Op1.pickF (.tmp rfl) hb7 (.tmp rfl)), .inr (Op1.move (.tmp rfl)), .inr (dr rfl rfl rfl hb9 (Op1.fieldAddr Try.underlying27 rfl (fun w => ⟨0, Try.sizeOf25 w⟩) fapi_Unit_5 (.tmp rfl))), .inr (dr rfl rfl rfl hb9 (Op1.load ty25 (.tmp rfl))), .inr (dr rfl rfl rfl hb9 (Op1.move (.tmp rfl))), .inr (dr rfl rfl rfl hb9 (Op1.idx hv11 Try.underlying25 Try.sizeOf27 (.tmp rfl) (.tmp rfl))), .inr (dr rfl rfl rfl hb9 (Op1.fieldAddr Try.underlying27 rfl (fun w => ⟨0, Try.sizeOf3 w⟩) fapi_Unit_1 (.tmp rfl))), .inr (dr rfl rfl rfl hb9 (Op1.load ty3 (.tmp rfl))), .inr (dr rfl rfl rfl hb9 (Op1.fieldAddr Try.underlying27 rfl (fun w => ⟨0, Try.sizeOf25 w⟩) fapi_Unit_5 (.tmp rfl))), .inr (dr rfl rfl rfl hb9 (Op1.load ty25 (.tmp rfl))), .inr (dr rfl rfl rfl hb9 (Op1.move (.tmp rfl))), .inr (dr rfl rfl rfl hb9 (Op1.idx hv12 Try.underlying25 Try.sizeOf27 (.tmp rfl) (.tmp rfl))), .inr (dr rfl rfl rfl hb9 (Op1.fieldAddr Try.underlying27 rfl (fun w => ⟨0, Try.sizeOf3 w⟩) fapi_Unit_1 (.tmp rfl))), .inr (dr rfl rfl rfl hb9 (Op1.load ty3 (.tmp rfl))), .inr (dr rfl rfl rfl hb9 (Op1.neI (.tmp rfl) (.tmp rfl))), .inr (Op1.pickF (.tmp rfl) hb9 (.tmp rfl)), trivial⟩) ?_
     refine WN.seq ?_
     refine W.cond (.tmp rfl) (fun hc13 => ?_) (fun hc13 => ?_)
     ·have hp14 := of_decide_eq_true hc13
      rw [if_pos hp14] at hm
      refine W.sr ?_
      refine WL.op rfl (.assign (.nil (t := tapi_Id))) ?_
      refine WL.ns ?_
      cases hm
      exact W.ret1 () rfl (.tmp rfl) trivial
     ·have hp14 := of_decide_eq_false hc13
      rw [if_neg hp14] at hm
      refine W.skip ?_
      refine WN.seq ?_
      refine W.sr ?_
      refine WL.addNil (t := tapi_Id) (E := 23) 13 ?_
      refine WL.op rfl (.assign (Opd.nilO (t := tapi_Id))) ?_
      refine WL.ns ?_
      refine W.seq ?_
      refine W.sr ?_
      refine WL.op rfl (.fieldAddr Try.underlying27 rfl (fun w => ⟨0, Try.sizeOf25 w⟩) fapi_Unit_5 (.tmp rfl)) ?_
      refine WL.op rfl (.load ty25 (.tmp rfl)) ?_
      refine WL.mv rfl rfl ?_
      refine WL.mv rfl rfl ?_
      obtain ⟨v2, hv15, hm⟩ := bind_some hm
      refine WL.op rfl (.addC hv15 (.tmp rfl) .i64) ?_
      obtain ⟨v3, hv16, hm⟩ := bind_some hm
      refine WL.op rfl (.slc hv16 Try.underlying25 Try.sizeOf27 (.tmp rfl) (.tmp rfl) (.tmp rfl)) ?_
      refine WL.op rfl (.lenL Try.underlying25 (.tmp rfl)) ?_
      refine WL.op rfl (.move .i64) ?_
      refine WL.ns ?_
      refine W.block ?_
      obtain ⟨s17, hs18, hk19⟩ := bind_some hm
      clear hm
      refine W.loop (fun m (s : Int × List api_Unit × List api_Unit × (((List api_Id)) × Tok)) => m = s.2.2.1.length ∧ v3 = s.2.1 ++ s.2.2.1 ∧ s.1 = (s.2.1.length : Int) ∧ M.resolve_Between_loop1 row s.2.2.1 s.2.2.2.1 = some s17) (fun s => [(70, ((tI .i64).is s.1)), (13, (tO tapi_Id s.2.2.2.2 s.2.2.2.1)), (7, (tapi_Unit.ptr row.1)), (8, ((tI .i64).is row.2.1)), (68, ((tL tapi_Unit).is v3)), (69, ((tI .i64).is (v3.length : Int)))]) (fun s => [(13, Dec.Own tapi_Id 23 s.2.2.2.2 s.2.2.2.1.length)]) v3.length ((0 : Int), [], v3, (([] : List api_Id), (none : Tok))) ⟨rfl, rfl, rfl, hs18⟩ ⟨Ent.q rfl, Ent.q rfl, Ent.q rfl, Ent.q rfl, Ent.q rfl, Ent.q rfl, trivial⟩ ⟨rfl, rfl, trivial⟩ ?_
      rintro m ⟨i, pre, rest1, ⟨out, k⟩⟩ ⟨hn23, hxs20, hi21, hm⟩
      try dsimp only at hn23 hxs20 hi21 hm
      change W _ _ _ _ _ _ _ [(70, ((tI .i64).is i)), (13, (tO tapi_Id k out)), (7, (tapi_Unit.ptr row.1)), (8, ((tI .i64).is row.2.1)), (68, ((tL tapi_Unit).is v3)), (69, ((tI .i64).is (v3.length : Int)))] [(13, Dec.Own tapi_Id 23 k out.length)]
      refine W.lenL (s := 68) (.tmp rfl) fun hlen22 => ?_
      refine W.sr ?_
      refine WL.op rfl (.ltI (.tmp rfl) (.tmp rfl)) ?_
      refine WL.ns ?_
      refine W.seq ?_
      refine W.cond (.tmp rfl) (fun hc25 => ?_) (fun hc25 => ?_)
      ·have hp26 := of_decide_eq_true hc25
       obtain ⟨e, es, hrest28⟩ := range_more hxs20 hi21 hp26
       subst hrest28
       rw [M.resolve_Between_loop1.eq_2] at hm
       refine W.skip ?_
       refine WN.seq ?_
       refine W.seq ?_
       refine W.block ?_
       refine W.sr ?_
       refine WL.op rfl (.idxPre hxs20 hi21 Try.underlying25 Try.sizeOf27 (.tmp rfl) (.tmp rfl)) ?_
       refine WL.op rfl (.load ty27 (.tmp rfl)) ?_
       refine WL.opR rfl (OpR.alloc 15 ze27) (fun b3 => ?_)
       refine WL.opU (OpR.storeB (b := b3) 15 Try.sizeOf27 (Cellable.is tapi_Unit e) rfl (.tmp rfl) (.tmp rfl)) (fun _ => ?_)
       refine WL.sealed (t := tapi_Unit) (u := e) 15 15 rfl rfl ?_
       refine WL.ns ?_
       refine W.seq ?_
       obtain ⟨v4, hv29, hm⟩ := bind_some hm
       refine W.draw [.c ((tI .i64).ptr e.Kind), .c ((tI .i64).is e.Kind), .c ((tL tapi_Unit).ptr row.1.Kids), .c ((tL tapi_Unit).is row.1.Kids), .c ((tI .i64).is row.2.1), .c (tapi_Unit.ptr v4), .c ((tI .i64).ptr v4.Kind), .c ((tI .i64).is v4.Kind), .c (tB.is (decide (e.Kind = v4.Kind)))] [([], [15]), ([0], []), ([], [7]), ([2], []), ([], [8]), ([3, 4], []), ([5], []), ([6], []), ([1, 7], [])] Try.mixed rfl rfl rfl rfl ⟨.inr (Op1.fieldAddr Try.underlying27 rfl (fun w => ⟨0, Try.sizeOf3 w⟩) fapi_Unit_1 (.tmp rfl)), .inr (Op1.load ty3 (.tmp rfl)), .inr (Op1.fieldAddr Try.underlying27 rfl (fun w => ⟨0, Try.sizeOf25 w⟩) fapi_Unit_5 (.tmp rfl)), .inr (Op1.load ty25 (.tmp rfl)), .inr (Op1.move (.tmp rfl)), .inr (Op1.idx hv29 Try.underlying25 Try.sizeOf27 (.tmp rfl) (.tmp rfl)), .inr (Op1.fieldAddr Try.underlying27 rfl (fun w => ⟨0, Try.sizeOf3 w⟩) fapi_Unit_1 (.tmp rfl)), .inr (Op1.load ty3 (.tmp rfl)), .inr (Op1.eqI (.tmp rfl) (.tmp rfl)), trivial⟩ ?_
       refine WN.seq ?_
       refine W.cond (.tmp rfl) (fun hc30 => ?_) (fun hc30 => ?_)
       ·have hp31 := of_decide_eq_true hc30
        rw [if_pos hp31] at hm
        refine W.region ?_
        refine WL.mv rfl rfl ?_
        refine WL.op rfl (.fieldAddr Try.underlying27 rfl (fun w => ⟨2, Try.sizeOf23 w⟩) fapi_Unit_0 (.tmp rfl)) ?_
        refine WL.op rfl (.load ty23 (.tmp rfl)) ?_
        refine WL.op rfl (.buildSlice (n := 1) (ys := [(0, e.Id)]) (z := zapi_Id) (xs := [e.Id]) Try.underlying31 el23 ze23 ⟨rfl, (.tmp rfl), trivial⟩ (by simp) (by decide) rfl) ?_
        obtain ⟨out1, hv32, hm⟩ := bind_some hm
        refine WL.opR rfl (OpR.appC (key := 13) hv32 Try.underlying31 el23 (.tmp rfl) (.tmp rfl) rfl) (fun k1 => ?_)
        refine WL.gv rfl rfl ?_
        refine WL.nil ?_
        refine WN.block ?_
        refine WN.seq ?_
        refine W.region ?_
        refine WL.op rfl (.addI (.tmp rfl) .i64 (range_inR hi21 hp26 hlen22)) ?_
        refine WL.mv rfl rfl ?_
        refine WL.nil ?_
        exact WN.again es.length (i + 1, pre ++ [e], es, (out1, k1)) (range_lt hn23) ⟨rfl, range_step hxs20, range_idx hi21, hm⟩ ⟨Ent.q rfl, Ent.q rfl, Ent.q rfl, Ent.q rfl, Ent.q rfl, Ent.q rfl, trivial⟩ ⟨rfl, rfl, trivial⟩
       ·have hp31 := of_decide_eq_false hc30
        rw [if_neg hp31] at hm
        refine W.skip ?_
        refine WN.block ?_
        refine WN.seq ?_
        refine W.region ?_
        refine WL.op rfl (.addI (.tmp rfl) .i64 (range_inR hi21 hp26 hlen22)) ?_
        refine WL.mv rfl rfl ?_
        refine WL.nil ?_
        exact WN.again es.length (i + 1, pre ++ [e], es, (out, k)) (range_lt hn23) ⟨rfl, range_step hxs20, range_idx hi21, hm⟩ ⟨Ent.q rfl, Ent.q rfl, Ent.q rfl, Ent.q rfl, Ent.q rfl, Ent.q rfl, trivial⟩ ⟨rfl, rfl, trivial⟩
      ·have hrest28 := range_end hxs20 hi21 (of_decide_eq_false hc25)
       subst hrest28
       rw [M.resolve_Between_loop1.eq_1] at hm
       refine W.exit rfl ?_
       have hr33 := Option.some.inj hm
       clear hm
       subst hr33
       have hm := hk19
       try dsimp only at hm
       refine WN.seq ?_
       refine W.sr ?_
       refine WL.mv rfl rfl ?_
       refine WL.gv rfl rfl ?_
       refine WL.ns ?_
       cases hm
       exact W.ret1 () rfl (Opd.own (.tmp rfl)) trivial

theorem resolve_through_spec (n : Nat) (s0_ : resolve_scene) (c : api_Cite) (r : (List api_Id) × Int) (hm : M.resolve_through n s0_ c = some r) : FSpec Try.prog 42 [(tresolve_scene.is s0_), (tapi_Cite.is c)] (Asn.tuple2 ((tL tapi_Id).is r.1) ((tI .i64).is r.2)) := by
 unfold M.resolve_through at hm
 refine FSpec.of Try.func42 rfl rfl rfl (fun g0 => ?_)
 refine W.sr ?_
 refine WL.op rfl (.box (.tmp rfl)) ?_
 refine WL.op rfl (.box (.tmp rfl)) ?_
 refine WL.op rfl (.assign (.nil (t := tapi_Id))) ?_
 refine WL.op rfl (.assign .i64) ?_
 refine WL.nr ?_
 refine WL.op rfl (.fieldAddr Try.underlying62 rfl (fun w => ⟨7, Try.sizeOf27 w⟩) fresolve_scene_0 (.tmp rfl)) ?_
 refine WL.op rfl (.load ty27 (.tmp rfl)) ?_
 refine WL.op rfl (.fieldAddr Try.underlying30 rfl (fun w => ⟨0, Try.sizeOf28 w⟩) fapi_Cite_1 (.tmp rfl)) ?_
 refine WL.op rfl (.load ty28 (.tmp rfl)) ?_
 obtain ⟨findon, hv1, hm⟩ := bind_some hm
 refine WL.op rfl (.call Try.call62 (address_FindOne_spec _ _ _ _ hv1) ⟨(.tmp rfl), (.tmp rfl), trivial⟩) ?_
 refine WL.mv rfl rfl ?_
 refine WL.op rfl (.extract0 (.tmp rfl)) ?_
 refine WL.op rfl (.extract1 (.tmp rfl)) ?_
 refine WL.opR rfl (OpR.alloc 6 ze23) (fun b => ?_)
 refine WL.opU (OpR.storeB (b := b) 6 Try.sizeOf23 (Cellable.is tapi_Id findon.1) rfl (.tmp rfl) (.tmp rfl)) (fun _ => ?_)
 refine WL.sealed (t := tapi_Id) (u := findon.1) 6 6 rfl rfl ?_
 refine WL.gv rfl rfl ?_
 refine WL.ns ?_
 refine W.seq ?_
 refine W.sr ?_
 refine WL.mv rfl rfl ?_
 refine WL.op rfl (.neI (.tmp rfl) .i64) ?_
 refine WL.ns ?_
 refine W.cond (.tmp rfl) (fun hc2 => ?_) (fun hc2 => ?_)
 ·have hp3 := of_decide_eq_true hc2
  rw [if_pos hp3] at hm
  refine W.sr ?_
  refine WL.mv rfl rfl ?_
  refine WL.op rfl (.assign (.nil (t := tapi_Id))) ?_
  refine WL.gv rfl rfl ?_
  refine WL.ns ?_
  cases hm
  exact W.ret2 () rfl rfl (.tmp rfl) (.tmp rfl) trivial
 ·have hp3 := of_decide_eq_false hc2
  rw [if_neg hp3] at hm
  refine W.skip ?_
  refine WN.seq ?_
  refine W.sr ?_
  refine WL.op rfl (.fieldAddr Try.underlying62 rfl (fun w => ⟨7, Try.sizeOf27 w⟩) fresolve_scene_0 (.tmp rfl)) ?_
  refine WL.op rfl (.load ty27 (.tmp rfl)) ?_
  refine WL.op rfl (.load ty23 (.tmp rfl)) ?_
  obtain ⟨row, hv4, hm⟩ := bind_some hm
  refine WL.op rfl (.call Try.call34 (resolve_row_spec _ _ _ _ hv4) ⟨(.tmp rfl), (.tmp rfl), trivial⟩) ?_
  refine WL.mv rfl rfl ?_
  refine WL.op rfl (.extract30 (.tmp rfl)) ?_
  refine WL.op rfl (.extract31 (.tmp rfl)) ?_
  refine WL.op rfl (.extract32 (.tmp rfl)) ?_
  refine WL.opR rfl (OpR.alloc 8 ze27) (fun b1 => ?_)
  refine WL.opR rfl (OpR.alloc 9 ze3) (fun b2 => ?_)
  refine WL.opU (OpR.storeB (b := b1) 8 Try.sizeOf27 (Cellable.is tapi_Unit row.1) rfl (.tmp rfl) (.tmp rfl)) (fun _ => ?_)
  refine WL.sealed (t := tapi_Unit) (u := row.1) 8 8 rfl rfl ?_
  refine WL.opU (OpR.storeB (b := b2) 9 Try.sizeOf3 (Cellable.is (tI .i64) row.2.1) rfl (.tmp rfl) (.tmp rfl)) (fun _ => ?_)
  refine WL.sealed (t := (tI .i64)) (u := row.2.1) 9 9 rfl rfl ?_
  refine WL.gv rfl rfl ?_
  refine WL.ns ?_
  refine W.seq ?_
  refine W.sr ?_
  refine WL.mv rfl rfl ?_
  refine WL.op rfl (.notB (.tmp rfl)) ?_
  refine WL.ns ?_
  refine W.cond (.tmp rfl) (fun hc5 => ?_) (fun hc5 => ?_)
  ·have hp6 := not_pos hc5
   rw [if_pos hp6] at hm
   refine W.sr ?_
   refine WL.op rfl (.assign (.nil (t := tapi_Id))) ?_
   refine WL.op rfl (.assign .i64) ?_
   refine WL.ns ?_
   cases hm
   exact W.ret2 () rfl rfl (.tmp rfl) (.tmp rfl) trivial
  ·have hp6 := not_neg hc5
   rw [if_neg hp6] at hm
   refine W.skip ?_
   refine WN.seq ?_
   refine W.sr ?_
   refine WL.op rfl (.fieldAddr Try.underlying27 rfl (fun w => ⟨0, Try.sizeOf25 w⟩) fapi_Unit_5 (.tmp rfl)) ?_
   refine WL.op rfl (.load ty25 (.tmp rfl)) ?_
   refine WL.op rfl (.makeFunc (ok := (fun s : api_Unit × Bool => (fun s0 => M.resolve_through_1 s0 row.1 row.2.1 c) s.1 = some s.2)) (As := (fun s : api_Unit × Bool => [tapi_Unit.is s.1])) (A := (fun s : api_Unit × Bool => (tB.is s.2))) (Cs := [(tapi_Unit.ptr row.1), ((tI .i64).ptr row.2.1), (tapi_Cite.ptr c)]) (cap := [.tmp 8, .tmp 9, .tmp 3]) Try.call64 ⟨(.tmp rfl), (.tmp rfl), (.tmp rfl), trivial⟩ (fun s hs => resolve_through_1_spec _ _ _ _ _ hs)) ?_
   obtain ⟨unit, hv7, hm⟩ := bind_some hm
   refine WL.op rfl (.call Try.call63 (slices_IndexFunc_api_Unit_api_Unit_spec _ _ _ _ hv7) ⟨(.tmp rfl), (.tmp rfl), trivial⟩) ?_
   refine WL.gv rfl rfl ?_
   refine WL.ns ?_
   refine W.seq ?_
   refine W.block ?_
   refine W.sr ?_
   refine WL.mv rfl rfl ?_
   refine WL.op rfl (.ltI (.tmp rfl) .i64) ?_
   refine WL.gv rfl rfl ?_
   refine WL.ns ?_
   refine W.cond (.tmp rfl) (fun hc8 => ?_) (fun hc8 => ?_)
   ·have hp9 := of_decide_eq_true hc8
    rw [if_pos hp9] at hm
    refine W.sr ?_
    refine WL.op rfl (.assign (.nil (t := tapi_Id))) ?_
    refine WL.op rfl (.assign .i64) ?_
    refine WL.ns ?_
    cases hm
    exact W.ret2 () rfl rfl (.tmp rfl) (.tmp rfl) trivial
   ·have hp9 := of_decide_eq_false hc8
    rw [if_neg hp9] at hm
    refine W.sr ?_
    refine WL.mv rfl rfl ?_
    refine WL.op rfl (.load ty3 (.tmp rfl)) ?_
    refine WL.op rfl (.ltI (.tmp rfl) (.tmp rfl)) ?_
    refine WL.gv rfl rfl ?_
    refine WL.ns ?_
    refine W.cond (.tmp rfl) (fun hc10 => ?_) (fun hc10 => ?_)
    ·have hp11 := of_decide_eq_true hc10
     rw [if_pos hp11] at hm
     refine W.sr ?_
     refine WL.op rfl (.assign (.nil (t := tapi_Id))) ?_
     refine WL.op rfl (.assign .i64) ?_
     refine WL.ns ?_
     cases hm
     exact W.ret2 () rfl rfl (.tmp rfl) (.tmp rfl) trivial
    ·have hp11 := of_decide_eq_false hc10
     rw [if_neg hp11] at hm
     refine W.skip ?_
     refine WN.block ?_
     refine WN.seq ?_
     refine W.seq ?_
     obtain ⟨v, hv12, hm⟩ := bind_some hm
     obtain ⟨betwee, hv13, hm⟩ := bind_some hm
     refine W.draw [.c (tapi_Unit.ptr s0_.u_), .c (tapi_Unit.is s0_.u_), .c (tapi_Id.is findon.1), .c ((tL tapi_Unit).ptr row.1.Kids), .c ((tL tapi_Unit).is row.1.Kids), .c ((tI .i64).is unit), .c (tapi_Unit.ptr v), .c (tapi_Id.ptr v.Id), .c (tapi_Id.is v.Id), .c ((tL tapi_Id).is betwee), .c ((tL tapi_Id).is betwee), .c ((tI .i64).is (0 : Int))] [([], [2]), ([0], []), ([], [6]), ([], [8]), ([3], []), ([], [11]), ([4, 5], []), ([6], []), ([7], []), ([1, 2, 8], []), ([9], []), ([], [])] Try.mixed rfl rfl rfl rfl ⟨.inr (Op1.fieldAddr Try.underlying62 rfl (fun w => ⟨7, Try.sizeOf27 w⟩) fresolve_scene_0 (.tmp rfl)), .inr (Op1.load ty27 (.tmp rfl)), .inr (Op1.load ty23 (.tmp rfl)), .inr (Op1.fieldAddr Try.underlying27 rfl (fun w => ⟨0, Try.sizeOf25 w⟩) fapi_Unit_5 (.tmp rfl)), .inr (Op1.load ty25 (.tmp rfl)), .inr (Op1.move (.tmp rfl)), .inr (Op1.idx hv12 Try.underlying25 Try.sizeOf27 (.tmp rfl) (.tmp rfl)), .inr (Op1.fieldAddr Try.underlying27 rfl (fun w => ⟨2, Try.sizeOf23 w⟩) fapi_Unit_0 (.tmp rfl)), .inr (Op1.load ty23 (.tmp rfl)), .inr (Op1.call Try.call15 (resolve_Between_spec _ _ _ _ _ hv13) ⟨(.tmp rfl), (.tmp rfl), (.tmp rfl), trivial⟩), .inr (Op1.assign (.tmp rfl)), .inr (Op1.assign .i64), trivial⟩ ?_
     refine WN.seq ?_
     cases hm
     exact W.ret2 () rfl rfl (.tmp rfl) (.tmp rfl) trivial

theorem unit_Ancestors_spec (n : Nat) (u : api_Unit) (id : api_Id) (r : (List api_Id)) (hm : M.unit_Ancestors n u id = some r) : FSpec Try.prog 32 [(tapi_Unit.is u), (tapi_Id.is id)] ((tL tapi_Id).is r) := by
 unfold M.unit_Ancestors at hm
 refine FSpec.of Try.func32 rfl rfl rfl (fun g0 => ?_)
 refine W.sr ?_
 refine WL.op rfl (.box (.tmp rfl)) ?_
 refine WL.op rfl (.box (.tmp rfl)) ?_
 refine WL.op rfl (.assign (.nil (t := tapi_Id))) ?_
 refine WL.nr ?_
 refine WL.addNil (t := tapi_Id) (E := 23) 5 ?_
 refine WL.op rfl (.assign (Opd.nilO (t := tapi_Id))) ?_
 refine WL.nr ?_
 refine WL.op rfl (.load ty27 (.tmp rfl)) ?_
 refine WL.op rfl (.load ty23 (.tmp rfl)) ?_
 obtain ⟨way, hv1, hm⟩ := bind_some hm
 refine WL.op rfl (.call Try.call53 (unit_way_spec _ _ _ _ hv1) ⟨(.tmp rfl), (.tmp rfl), trivial⟩) ?_
 refine WL.gv rfl rfl ?_
 refine WL.ns ?_
 refine W.seq ?_
 refine W.sr ?_
 refine WL.mv rfl rfl ?_
 refine WL.op rfl (.lenL Try.underlying25 (Opd.tLn (.tmp rfl))) ?_
 obtain ⟨v, hv2, hm⟩ := bind_some hm
 refine WL.op rfl (.subC hv2 (.tmp rfl) .i64) ?_
 refine WL.gv rfl rfl ?_
 refine WL.ns ?_
 refine W.block ?_
 obtain ⟨s3, hs4, hk5⟩ := bind_some hm
 clear hm
 refine W.loop (fun m (s : ((List api_Id) × Int) × Tok) => M.unit_Ancestors_loop1 way m s.1.1 s.1.2 = some s3) (fun s => [(5, (tO tapi_Id s.2 s.1.1)), (7, ((tI .i64).is s.1.2)), (6, ((tLn tapi_Unit).is way))]) (fun s => [(5, Dec.Own tapi_Id 23 s.2 s.1.1.length)]) _ ((([] : List api_Id), v), (none : Tok)) hs4 ⟨Ent.q rfl, Ent.q rfl, Ent.q rfl, trivial⟩ ⟨rfl, rfl, trivial⟩ ?_
 rintro n6 ⟨⟨out, i⟩, k⟩ hm
 try dsimp only at hm
 change W _ _ _ _ _ _ _ [(5, (tO tapi_Id k out)), (7, ((tI .i64).is i)), (6, ((tLn tapi_Unit).is way))] [(5, Dec.Own tapi_Id 23 k out.length)]
 cases n6 with
 | zero => rw [M.unit_Ancestors_loop1.eq_1] at hm; cases hm
 | succ n6 =>
  rw [M.unit_Ancestors_loop1.eq_2] at hm
  refine W.seq ?_
  refine W.sr ?_
  refine WL.mv rfl rfl ?_
  refine WL.op rfl (.geI (.tmp rfl) .i64) ?_
  refine WL.ns ?_
  refine W.cond (.tmp rfl) (fun hc7 => ?_) (fun hc7 => ?_)
  ·have hp8 := of_decide_eq_true hc7
   rw [if_pos hp8] at hm
   refine W.skip ?_
   refine WN.seq ?_
   refine W.seq ?_
   refine W.block ?_
   refine W.region ?_
   refine WL.mv rfl rfl ?_
   refine WL.mv rfl rfl ?_
   refine WL.mv rfl rfl ?_
   obtain ⟨v1, hv9, hm⟩ := bind_some hm
   refine WL.op rfl (.idx hv9 Try.underlying25 Try.sizeOf27 (Opd.tLn (.tmp rfl)) (.tmp rfl)) ?_
   refine WL.op rfl (.fieldAddr Try.underlying27 rfl (fun w => ⟨2, Try.sizeOf23 w⟩) fapi_Unit_0 (.tmp rfl)) ?_
   refine WL.op rfl (.load ty23 (.tmp rfl)) ?_
   refine WL.op rfl (.buildSlice (n := 1) (ys := [(0, v1.Id)]) (z := zapi_Id) (xs := [v1.Id]) Try.underlying31 el23 ze23 ⟨rfl, (.tmp rfl), trivial⟩ (by simp) (by decide) rfl) ?_
   obtain ⟨out1, hv10, hm⟩ := bind_some hm
   refine WL.opR rfl (OpR.appC (key := 5) hv10 Try.underlying31 el23 (.tmp rfl) (.tmp rfl) rfl) (fun k1 => ?_)
   refine WL.gv rfl rfl ?_
   refine WL.nil ?_
   refine WN.block ?_
   refine WN.seq ?_
   refine W.region ?_
   refine WL.mv rfl rfl ?_
   obtain ⟨v2, hv11, hm⟩ := bind_some hm
   refine WL.op rfl (.subC hv11 (.tmp rfl) .i64) ?_
   refine WL.gv rfl rfl ?_
   refine WL.nil ?_
   exact WN.again n6 ((out1, v2), k1) (Nat.lt_succ_self n6) hm ⟨Ent.q rfl, Ent.q rfl, Ent.q rfl, trivial⟩ ⟨rfl, rfl, trivial⟩
  ·have hp8 := of_decide_eq_false hc7
   rw [if_neg hp8] at hm
   refine W.exit rfl ?_
   have hr12 := Option.some.inj hm
   clear hm
   subst hr12
   have hm := hk5
   try dsimp only at hm
   refine WN.seq ?_
   refine W.sr ?_
   refine WL.mv rfl rfl ?_
   refine WL.gv rfl rfl ?_
   refine WL.ns ?_
   cases hm
   exact W.ret1 () rfl (Opd.own (.tmp rfl)) trivial

theorem resolve_Enclosing_spec (n : Nat) (u : api_Unit) (at0_ : api_Id) (kind : Int) (r : api_Id × Bool) (hm : M.resolve_Enclosing n u at0_ kind = some r) : FSpec Try.prog 13 [(tapi_Unit.is u), (tapi_Id.is at0_), ((tI .i64).is kind)] (Asn.tuple2 (tapi_Id.is r.1) (tB.is r.2)) := by
 unfold M.resolve_Enclosing at hm
 refine FSpec.of Try.func13 rfl rfl rfl (fun g0 => ?_)
 refine W.sr ?_
 refine WL.op rfl (.box (.tmp rfl)) ?_
 refine WL.op rfl (.box (.tmp rfl)) ?_
 refine WL.opR rfl (OpR.alloc 6 ze23) (fun b => ?_)
 refine WL.op rfl (.assign .bool) ?_
 refine WL.ns ?_
 refine W.seq ?_
 refine W.sr ?_
 refine WL.op rfl (.load ty27 (.tmp rfl)) ?_
 refine WL.op rfl (.load ty23 (.tmp rfl)) ?_
 obtain ⟨find, hv1, hm⟩ := bind_some hm
 refine WL.op rfl (.call Try.call31 (unit_Find_spec _ _ _ _ hv1) ⟨(.tmp rfl), (.tmp rfl), trivial⟩) ?_
 refine WL.mv rfl rfl ?_
 refine WL.op rfl (.extract0 (.tmp rfl)) ?_
 refine WL.op rfl (.extract1 (.tmp rfl)) ?_
 refine WL.opR rfl (OpR.alloc 8 ze27) (fun b1 => ?_)
 refine WL.opU (OpR.storeB (b := b1) 8 Try.sizeOf27 (Cellable.is tapi_Unit find.1) rfl (.tmp rfl) (.tmp rfl)) (fun _ => ?_)
 refine WL.sealed (t := tapi_Unit) (u := find.1) 8 8 rfl rfl ?_
 refine WL.gv rfl rfl ?_
 refine WL.nr ?_
 refine WL.mv rfl rfl ?_
 refine WL.op rfl (.notB (.tmp rfl)) ?_
 refine WL.ns ?_
 refine W.cond (.tmp rfl) (fun hc2 => ?_) (fun hc2 => ?_)
 ·have hp3 := not_pos hc2
  rw [if_pos hp3] at hm
  refine W.sr ?_
  refine WL.op rfl (.build (s := tapi_Id) (x := (⟨(0 : Int), (0 : Int), (0 : Int)⟩ : api_Id)) zapi_Id_f rfl Try.underlying23 (zapi_Id_sz _ Try.underlying23) ze23 rfl) ?_
  refine WL.opU (OpR.storeB (b := b) 6 Try.sizeOf23 (Cellable.is tapi_Id (⟨(0 : Int), (0 : Int), (0 : Int)⟩ : api_Id)) rfl (.tmp rfl) (.tmp rfl)) (fun _ => ?_)
  refine WL.op rfl (.assign .bool) ?_
  refine WL.ns ?_
  cases hm
  exact W.retQ2 () rfl rfl (ResAt.cell 6 Try.isAgg23 Try.sizeOf23 rfl (.tmp rfl)) (ResAt.tmp (.tmp rfl)) trivial
 ·have hp3 := not_neg hc2
  rw [if_neg hp3] at hm
  refine W.skip ?_
  refine WN.seq ?_
  refine W.seq ?_
  refine W.seq ?_
  obtain ⟨ancest, hv4, hm⟩ := bind_some hm
  obtain ⟨out, hv5, hm⟩ := bind_some hm
  refine W.weakR (res' := [(6, (Bx 3 true 23 (tapi_Id.is zapi_Id) b))]) ⟨rfl, rfl, trivial⟩ ?_
  refine W.drawM [.c (tapi_Id.is at0_), .f (fun cv => (tO tapi_Id (cv 0) [at0_])), .c (tapi_Unit.is u), .c (tapi_Id.is at0_), .c ((tL tapi_Id).is ancest), .f (fun cv => (tO tapi_Id (cv 1) out)), .c ((tI .i64).is (out.length : Int)), .c ((tI .i64).is (0 : Int))] [([], [4]), ([0], []), ([], [3]), ([], [4]), ([2, 3], []), ([1, 4], []), ([5], []), ([], [])] [1, 5] [[], [true], [], [], [], [false, true], [], []] (fun m cv => match m with | 0 => [(6, (Bx 3 true 23 (tapi_Id.is zapi_Id) b))] | 1 => [(24, Dec.Own tapi_Id 23 (cv 0) [at0_].length), (6, (Bx 3 true 23 (tapi_Id.is zapi_Id) b))] | _ => [(24, Dec.Own tapi_Id 23 (cv 1) out.length), (6, (Bx 3 true 23 (tapi_Id.is zapi_Id) b))]) (fun _ => none) Try.mixed rfl rfl rfl rfl rfl ⟨fun _ _ _ _ => rfl, ⟨fun m hm c t => by simp only [DA.at, upd_dep (r := [true]) (j := 0) rfl hm], ⟨fun _ _ _ _ => rfl, ⟨fun _ _ _ _ => rfl, ⟨fun _ _ _ _ => rfl, ⟨fun m hm c t => by simp only [DA.at, upd_dep (r := [false, true]) (j := 1) rfl hm], ⟨fun _ _ _ _ => rfl, ⟨fun _ _ _ _ => rfl, trivial⟩⟩⟩⟩⟩⟩⟩⟩ rfl ⟨mo fun cv => Op1.load ty23 (.tmp rfl), ⟨.inl rfl, ⟨mo fun cv => Op1.load ty27 (.tmp rfl), ⟨mo fun cv => Op1.load ty23 (.tmp rfl), ⟨mo fun cv => Op1.call Try.call32 (unit_Ancestors_spec _ _ _ _ hv4) ⟨(.tmp rfl), (.tmp rfl), trivial⟩, ⟨.inl rfl, ⟨mo fun cv => Op1.lenL Try.underlying31 (Opd.own (.tmp rfl)), ⟨mo fun cv => Op1.move .i64, trivial⟩⟩⟩⟩⟩⟩⟩⟩ ⟨⟨_, _, _, [], (fun cv => [(24, Dec.Own tapi_Id 23 (cv 0) [at0_].length)]), rfl, rfl, rfl, rfl, fun _ => rfl, fun _ _ => rfl, fun cv => OpR.buildSlice (n := 1) (ys := [(0, at0_)]) (z := zapi_Id) (xs := [at0_]) 24 Try.underlying31 el23 ze23 ⟨rfl, (.tmp rfl), trivial⟩ (by simp) (by decide) rfl⟩, ⟨⟨_, _, _, [24], (fun cv => [(24, Dec.Own tapi_Id 23 (cv 1) out.length)]), rfl, rfl, rfl, rfl, fun _ => rfl, fun _ _ => rfl, fun cv => OpR.appC (key := 24) hv5 Try.underlying31 el23 (.tmp rfl) (.tmp rfl) rfl⟩, trivial⟩⟩ (fun cv => ?_)
  refine WN.seq ?_
  refine W.block ?_
  obtain ⟨s6, hs7, hk8⟩ := bind_some hm
  clear hm
  refine W.loop (fun m (s : Int × List api_Id × List api_Id × api_Id) => m = s.2.2.1.length ∧ out = s.2.1 ++ s.2.2.1 ∧ s.1 = (s.2.1.length : Int) ∧ M.resolve_Enclosing_loop1 n u kind s.2.2.1 s.2.2.2 = some s6) (fun s => [(30, ((tI .i64).is s.1)), (2, ((tI .i64).is kind)), (3, (tapi_Unit.ptr u)), (6, (Bp b 0)), (28, (tO tapi_Id (cv 1) out)), (29, ((tI .i64).is (out.length : Int)))]) (fun s => [(24, Dec.Own tapi_Id 23 (cv 1) out.length), (6, (Bx 3 true 23 (tapi_Id.is s.2.2.2) b))]) out.length ((0 : Int), [], out, zapi_Id) ⟨rfl, rfl, rfl, hs7⟩ ⟨Ent.q rfl, Ent.q rfl, Ent.q rfl, Ent.q rfl, Ent.q rfl, Ent.q rfl, trivial⟩ ⟨rfl, rfl, ⟨rfl, rfl, trivial⟩⟩ ?_
  rintro m ⟨i, pre, rest1, v⟩ ⟨hn12, hxs9, hi10, hm⟩
  try dsimp only at hn12 hxs9 hi10 hm
  change W _ _ _ _ _ _ _ [(30, ((tI .i64).is i)), (2, ((tI .i64).is kind)), (3, (tapi_Unit.ptr u)), (6, (Bp b 0)), (28, (tO tapi_Id (cv 1) out)), (29, ((tI .i64).is (out.length : Int)))] [(24, Dec.Own tapi_Id 23 (cv 1) out.length), (6, (Bx 3 true 23 (tapi_Id.is v) b))]
  refine W.lenL (s := 28) (Opd.own (.tmp rfl)) fun hlen11 => ?_
  refine W.sr ?_
  refine WL.op rfl (.ltI (.tmp rfl) (.tmp rfl)) ?_
  refine WL.ns ?_
  refine W.seq ?_
  refine W.cond (.tmp rfl) (fun hc14 => ?_) (fun hc14 => ?_)
  ·have hp15 := of_decide_eq_true hc14
   obtain ⟨e, es, hrest17⟩ := range_more hxs9 hi10 hp15
   subst hrest17
   rw [M.resolve_Enclosing_loop1.eq_2] at hm
   refine W.skip ?_
   refine WN.seq ?_
   refine W.seq ?_
   refine W.block ?_
   refine W.sr ?_
   refine WL.op rfl (.idxPre hxs9 hi10 Try.underlying31 Try.sizeOf23 (Opd.own (.tmp rfl)) (.tmp rfl)) ?_
   refine WL.op rfl (.load ty23 (.tmp rfl)) ?_
   refine WL.opR rfl (OpR.alloc 11 ze23) (fun b2 => ?_)
   refine WL.opU (OpR.storeB (b := b2) 11 Try.sizeOf23 (Cellable.is tapi_Id e) rfl (.tmp rfl) (.tmp rfl)) (fun _ => ?_)
   refine WL.sealed (t := tapi_Id) (u := e) 11 11 rfl rfl ?_
   refine WL.nr ?_
   refine WL.op rfl (.load ty27 (.tmp rfl)) ?_
   refine WL.op rfl (.load ty23 (.tmp rfl)) ?_
   obtain ⟨find1, hv18, hm⟩ := bind_some hm
   refine WL.op rfl (.call Try.call31 (unit_Find_spec _ _ _ _ hv18) ⟨(.tmp rfl), (.tmp rfl), trivial⟩) ?_
   refine WL.mv rfl rfl ?_
   refine WL.op rfl (.extract0 (.tmp rfl)) ?_
   refine WL.op rfl (.extract1 (.tmp rfl)) ?_
   refine WL.opR rfl (OpR.alloc 12 ze27) (fun b3 => ?_)
   refine WL.opU (OpR.storeB (b := b3) 12 Try.sizeOf27 (Cellable.is tapi_Unit find1.1) rfl (.tmp rfl) (.tmp rfl)) (fun _ => ?_)
   refine WL.sealed (t := tapi_Unit) (u := find1.1) 12 12 rfl rfl ?_
   refine WL.gv rfl rfl ?_
   refine WL.nr ?_
   refine WL.op rfl (.fieldAddr Try.underlying27 rfl (fun w => ⟨0, Try.sizeOf3 w⟩) fapi_Unit_1 (.tmp rfl)) ?_
   refine WL.op rfl (.load ty3 (.tmp rfl)) ?_
   refine WL.mv rfl rfl ?_
   refine WL.op rfl (.eqI (.tmp rfl) (.tmp rfl)) ?_
   refine WL.ns ?_
   refine W.cond (.tmp rfl) (fun hc19 => ?_) (fun hc19 => ?_)
   ·have hp20 := of_decide_eq_true hc19
    rw [if_pos hp20] at hm
    refine W.sr ?_
    refine WL.op rfl (.load ty23 (.tmp rfl)) ?_
    refine WL.opU (OpR.storeB (b := b) 6 Try.sizeOf23 (Cellable.is tapi_Id e) rfl (.tmp rfl) (.tmp rfl)) (fun _ => ?_)
    refine WL.op rfl (.assign .bool) ?_
    refine WL.ns ?_
    have hr21 := Option.some.inj hm
    clear hm
    subst hr21
    have hm := hk8
    try dsimp only at hm
    cases hm
    exact W.retQ2 () rfl rfl (ResAt.cell 6 Try.isAgg23 Try.sizeOf23 rfl (.tmp rfl)) (ResAt.tmp (.tmp rfl)) trivial
   ·have hp20 := of_decide_eq_false hc19
    rw [if_neg hp20] at hm
    refine W.skip ?_
    refine WN.block ?_
    refine WN.seq ?_
    refine W.region ?_
    refine WL.op rfl (.addI (.tmp rfl) .i64 (range_inR hi10 hp15 hlen11)) ?_
    refine WL.mv rfl rfl ?_
    refine WL.nil ?_
    exact WN.again es.length (i + 1, pre ++ [e], es, v) (range_lt hn12) ⟨rfl, range_step hxs9, range_idx hi10, hm⟩ ⟨Ent.q rfl, Ent.q rfl, Ent.q rfl, Ent.q rfl, Ent.q rfl, Ent.q rfl, trivial⟩ ⟨rfl, rfl, ⟨rfl, rfl, trivial⟩⟩
  ·have hrest17 := range_end hxs9 hi10 (of_decide_eq_false hc14)
   subst hrest17
   rw [M.resolve_Enclosing_loop1.eq_1] at hm
   refine W.exit rfl ?_
   have hr22 := Option.some.inj hm
   clear hm
   subst hr22
   have hm := hk8
   try dsimp only at hm
   refine WN.seq ?_
   refine W.sr ?_
   refine WL.op rfl (.build (s := tapi_Id) (x := (⟨(0 : Int), (0 : Int), (0 : Int)⟩ : api_Id)) zapi_Id_f rfl Try.underlying23 (zapi_Id_sz _ Try.underlying23) ze23 rfl) ?_
   refine WL.opU (OpR.storeB (b := b) 6 Try.sizeOf23 (Cellable.is tapi_Id (⟨(0 : Int), (0 : Int), (0 : Int)⟩ : api_Id)) rfl (.tmp rfl) (.tmp rfl)) (fun _ => ?_)
   refine WL.op rfl (.assign .bool) ?_
   refine WL.ns ?_
   cases hm
   exact W.retQ2 () rfl rfl (ResAt.cell 6 Try.isAgg23 Try.sizeOf23 rfl (.tmp rfl)) (ResAt.tmp (.tmp rfl)) trivial

theorem resolve_down_1_spec (y : api_Unit) (c : api_Step) (r : Bool) (hm : M.resolve_down_1 y c = some r) : FSpec Try.prog 86 [(tapi_Unit.is y), (tapi_Step.ptr c)] (tB.is r) := by
 unfold M.resolve_down_1 at hm
 refine FSpec.of Try.func86 rfl rfl rfl (fun g0 => ?_)
 refine W.sr ?_
 refine WL.op rfl (.box (.tmp rfl)) ?_
 refine WL.op rfl (.assign .bool) ?_
 refine WL.nr ?_
 refine WL.op rfl (.fieldAddr Try.underlying27 rfl (fun w => ⟨0, Try.sizeOf3 w⟩) fapi_Unit_1 (.tmp rfl)) ?_
 refine WL.op rfl (.load ty3 (.tmp rfl)) ?_
 refine WL.op rfl (.fieldAddr Try.underlying55 rfl (fun w => ⟨0, Try.sizeOf3 w⟩) fapi_Step_0 (.tmp rfl)) ?_
 refine WL.op rfl (.load ty3 (.tmp rfl)) ?_
 refine WL.op rfl (.eqI (.tmp rfl) (.tmp rfl)) ?_
 refine WL.mv rfl rfl ?_
 rcases bcases (decide (y.Kind = c.Kind)) with hb1 | hb1
 ·have hp2 := of_decide_eq_true hb1
  rw [if_pos hp2] at hm
  refine WL.run rfl rfl rfl rfl hb1 rfl rfl (Op1.fieldAddr Try.underlying27 rfl (fun w => ⟨0, Try.sizeOf9 w⟩) fapi_Unit_2 (.tmp rfl)) ?_
  refine WL.run rfl rfl rfl rfl hb1 rfl rfl (Op1.load ty9 (.tmp rfl)) ?_
  refine WL.run rfl rfl rfl rfl hb1 rfl rfl (Op1.fieldAddr Try.underlying55 rfl (fun w => ⟨0, Try.sizeOf9 w⟩) fapi_Step_1 (.tmp rfl)) ?_
  refine WL.run rfl rfl rfl rfl hb1 rfl rfl (Op1.load ty9 (.tmp rfl)) ?_
  refine WL.run rfl rfl rfl rfl hb1 rfl rfl (Op1.eqS (.tmp rfl) (.tmp rfl)) ?_
  refine WL.op rfl (.pickT (.tmp rfl) hb1 (.tmp rfl)) ?_
  refine WL.gv rfl rfl ?_
  refine WL.ns ?_
  cases hm
  exact W.ret1 () rfl (.tmp rfl) trivial
 ·have hp2 := of_decide_eq_false hb1
  rw [if_neg hp2] at hm
  iterate 5 refine WL.pass rfl rfl rfl rfl hb1 rfl rfl ?_
  refine WL.op rfl (.pickF (.tmp rfl) hb1 .bool) ?_
  refine WL.gv rfl rfl ?_
  refine WL.ns ?_
  cases hm
  exact W.ret1 () rfl (.tmp rfl) trivial

theorem resolve_down_spec (n : Nat) (u : api_Unit) (id : api_Id) (p : List api_Step) (r : (List api_Id) × Int) (hm : M.resolve_down n u id p = some r) : FSpec Try.prog 65 [(tapi_Unit.is u), (tapi_Id.is id), ((tL tapi_Step).is p)] (Asn.tuple2 ((tL tapi_Id).is r.1) ((tI .i64).is r.2)) := by
 unfold M.resolve_down at hm
 refine FSpec.of Try.func65 rfl rfl rfl (fun g0 => ?_)
 refine W.sr ?_
 refine WL.op rfl (.box (.tmp rfl)) ?_
 refine WL.op rfl (.box (.tmp rfl)) ?_
 refine WL.op rfl (.assign (.nil (t := tapi_Id))) ?_
 refine WL.op rfl (.assign .i64) ?_
 refine WL.nr ?_
 refine WL.op rfl (.load ty27 (.tmp rfl)) ?_
 refine WL.op rfl (.load ty23 (.tmp rfl)) ?_
 obtain ⟨find, hv1, hm⟩ := bind_some hm
 refine WL.op rfl (.call Try.call31 (unit_Find_spec _ _ _ _ hv1) ⟨(.tmp rfl), (.tmp rfl), trivial⟩) ?_
 refine WL.mv rfl rfl ?_
 refine WL.op rfl (.extract0 (.tmp rfl)) ?_
 refine WL.op rfl (.extract1 (.tmp rfl)) ?_
 refine WL.opR rfl (OpR.alloc 8 ze27) (fun b => ?_)
 refine WL.opU (OpR.storeB (b := b) 8 Try.sizeOf27 (Cellable.is tapi_Unit find.1) rfl (.tmp rfl) (.tmp rfl)) (fun _ => ?_)
 refine WL.gv rfl rfl ?_
 refine WL.ns ?_
 refine W.seq ?_
 refine W.sr ?_
 refine WL.mv rfl rfl ?_
 refine WL.op rfl (.lenL Try.underlying28 (.tmp rfl)) ?_
 refine WL.op rfl (.move .i64) ?_
 refine WL.ns ?_
 refine W.block ?_
 obtain ⟨s2, hs3, hk4⟩ := bind_some hm
 clear hm
 refine W.loop (fun m (s : Int × List api_Step × List api_Step × api_Unit) => m = s.2.2.1.length ∧ p = s.2.1 ++ s.2.2.1 ∧ s.1 = (s.2.1.length : Int) ∧ M.resolve_down_loop1 n s.2.2.1 s.2.2.2 = some s2) (fun s => [(21, ((tI .i64).is s.1)), (8, (Bp b 0)), (19, ((tL tapi_Step).is p)), (20, ((tI .i64).is (p.length : Int)))]) (fun s => [(8, (Bx 8 true 27 (tapi_Unit.is s.2.2.2) b))]) p.length ((0 : Int), [], p, find.1) ⟨rfl, rfl, rfl, hs3⟩ ⟨Ent.q rfl, Ent.q rfl, Ent.q rfl, Ent.q rfl, trivial⟩ ⟨rfl, rfl, trivial⟩ ?_
 rintro m ⟨i, pre, rest1, x⟩ ⟨hn8, hxs5, hi6, hm⟩
 try dsimp only at hn8 hxs5 hi6 hm
 change W _ _ _ _ _ _ _ [(21, ((tI .i64).is i)), (8, (Bp b 0)), (19, ((tL tapi_Step).is p)), (20, ((tI .i64).is (p.length : Int)))] [(8, (Bx 8 true 27 (tapi_Unit.is x) b))]
 refine W.lenL (s := 19) (.tmp rfl) fun hlen7 => ?_
 refine W.sr ?_
 refine WL.op rfl (.ltI (.tmp rfl) (.tmp rfl)) ?_
 refine WL.ns ?_
 refine W.seq ?_
 refine W.cond (.tmp rfl) (fun hc10 => ?_) (fun hc10 => ?_)
 ·have hp11 := of_decide_eq_true hc10
  obtain ⟨e, es, hrest13⟩ := range_more hxs5 hi6 hp11
  subst hrest13
  rw [M.resolve_down_loop1.eq_2] at hm
  refine W.skip ?_
  refine WN.seq ?_
  refine W.seq ?_
  refine W.block ?_
  refine W.sr ?_
  refine WL.op rfl (.idxPre hxs5 hi6 Try.underlying28 Try.sizeOf55 (.tmp rfl) (.tmp rfl)) ?_
  refine WL.op rfl (.load ty55 (.tmp rfl)) ?_
  refine WL.opR rfl (OpR.alloc 11 ze55) (fun b1 => ?_)
  refine WL.opU (OpR.storeB (b := b1) 11 Try.sizeOf55 (Cellable.is tapi_Step e) rfl (.tmp rfl) (.tmp rfl)) (fun _ => ?_)
  refine WL.sealed (t := tapi_Step) (u := e) 11 11 rfl rfl ?_
  refine WL.nr ?_
  refine WL.op rfl (.fieldAddrB (o := 0) Try.underlying27 rfl (fun w => ⟨0, Try.sizeOf25 w⟩) (.tmp rfl) rfl) ?_
  refine WL.op rfl (.loadBF 8 rfl ty25 fapi_Unit_5 rfl (.tmp rfl)) ?_
  refine WL.op rfl (.makeFunc (ok := (fun s : api_Unit × Bool => (fun s0 => M.resolve_down_1 s0 e) s.1 = some s.2)) (As := (fun s : api_Unit × Bool => [tapi_Unit.is s.1])) (A := (fun s : api_Unit × Bool => (tB.is s.2))) (Cs := [(tapi_Step.ptr e)]) (cap := [.tmp 11]) Try.call86 ⟨(.tmp rfl), trivial⟩ (fun s hs => resolve_down_1_spec _ _ _ hs)) ?_
  obtain ⟨unit, hv14, hm⟩ := bind_some hm
  refine WL.op rfl (.call Try.call63 (slices_IndexFunc_api_Unit_api_Unit_spec _ _ _ _ hv14) ⟨(.tmp rfl), (.tmp rfl), trivial⟩) ?_
  refine WL.gv rfl rfl ?_
  refine WL.ns ?_
  refine W.seq ?_
  refine W.sr ?_
  refine WL.mv rfl rfl ?_
  refine WL.op rfl (.ltI (.tmp rfl) .i64) ?_
  refine WL.ns ?_
  refine W.cond (.tmp rfl) (fun hc15 => ?_) (fun hc15 => ?_)
  ·have hp16 := of_decide_eq_true hc15
   rw [if_pos hp16] at hm
   refine W.sr ?_
   refine WL.op rfl (.assign (.nil (t := tapi_Id))) ?_
   refine WL.op rfl (.assign .i64) ?_
   refine WL.ns ?_
   have hr17 := Option.some.inj hm
   clear hm
   subst hr17
   have hm := hk4
   try dsimp only at hm
   cases hm
   exact W.ret2 () rfl rfl (.tmp rfl) (.tmp rfl) trivial
  ·have hp16 := of_decide_eq_false hc15
   rw [if_neg hp16] at hm
   refine W.skip ?_
   refine WN.seq ?_
   refine W.region ?_
   refine WL.op rfl (.fieldAddrB (o := 0) Try.underlying27 rfl (fun w => ⟨0, Try.sizeOf25 w⟩) (.tmp rfl) rfl) ?_
   refine WL.op rfl (.loadBF 8 rfl ty25 fapi_Unit_5 rfl (.tmp rfl)) ?_
   refine WL.mv rfl rfl ?_
   obtain ⟨v, hv18, hm⟩ := bind_some hm
   refine WL.op rfl (.idx hv18 Try.underlying25 Try.sizeOf27 (.tmp rfl) (.tmp rfl)) ?_
   refine WL.op rfl (.load ty27 (.tmp rfl)) ?_
   refine WL.opU (OpR.storeB (b := b) 8 Try.sizeOf27 (Cellable.is tapi_Unit v) rfl (.tmp rfl) (.tmp rfl)) (fun _ => ?_)
   refine WL.nil ?_
   refine WN.block ?_
   refine WN.seq ?_
   refine W.region ?_
   refine WL.op rfl (.addI (.tmp rfl) .i64 (range_inR hi6 hp11 hlen7)) ?_
   refine WL.mv rfl rfl ?_
   refine WL.nil ?_
   exact WN.again es.length (i + 1, pre ++ [e], es, v) (range_lt hn8) ⟨rfl, range_step hxs5, range_idx hi6, hm⟩ ⟨Ent.q rfl, Ent.q rfl, Ent.q rfl, Ent.q rfl, trivial⟩ ⟨rfl, rfl, trivial⟩
 ·have hrest13 := range_end hxs5 hi6 (of_decide_eq_false hc10)
  subst hrest13
  rw [M.resolve_down_loop1.eq_1] at hm
  refine W.exit rfl ?_
  have hr19 := Option.some.inj hm
  clear hm
  subst hr19
  have hm := hk4
  try dsimp only at hm
  refine WN.seq ?_
  refine W.sr ?_
  refine WL.op rfl (.fieldAddrB (o := 0) Try.underlying27 rfl (fun w => ⟨2, Try.sizeOf23 w⟩) (.tmp rfl) rfl) ?_
  refine WL.op rfl (.loadBF 8 rfl ty23 fapi_Unit_0 rfl (.tmp rfl)) ?_
  refine WL.op rfl (.buildSlice (n := 1) (ys := [(0, x.Id)]) (z := zapi_Id) (xs := [x.Id]) Try.underlying31 el23 ze23 ⟨rfl, (.tmp rfl), trivial⟩ (by simp) (by decide) rfl) ?_
  refine WL.gv rfl rfl ?_
  refine WL.op rfl (.assign .i64) ?_
  refine WL.ns ?_
  cases hm
  exact W.ret2 () rfl rfl (.tmp rfl) (.tmp rfl) trivial

theorem resolve_this_spec (n : Nat) (s0_ : resolve_scene) (c : api_Cite) (r : (List api_Id) × Int) (hm : M.resolve_this n s0_ c = some r) : FSpec Try.prog 43 [(tresolve_scene.is s0_), (tapi_Cite.is c)] (Asn.tuple2 ((tL tapi_Id).is r.1) ((tI .i64).is r.2)) := by
 unfold M.resolve_this at hm
 refine FSpec.of Try.func43 rfl rfl rfl (fun g0 => ?_)
 refine W.sr ?_
 refine WL.op rfl (.box (.tmp rfl)) ?_
 refine WL.op rfl (.box (.tmp rfl)) ?_
 refine WL.op rfl (.assign (.nil (t := tapi_Id))) ?_
 refine WL.op rfl (.assign .i64) ?_
 refine WL.ns ?_
 refine W.seq ?_
 obtain ⟨v, hv1, hm⟩ := bind_some hm
 obtain ⟨enclos, hv2, hm⟩ := bind_some hm
 refine W.weakR (res' := []) trivial ?_
 refine W.drawM [.c (tapi_Unit.ptr s0_.u_), .c (tapi_Unit.is s0_.u_), .c (tapi_Id.ptr s0_.at_), .c (tapi_Id.is s0_.at_), .c ((tL tapi_Step).ptr c.Path), .c ((tL tapi_Step).is c.Path), .c (tapi_Step.ptr v), .c ((tI .i64).ptr v.Kind), .c ((tI .i64).is v.Kind), .c (Asn.tuple2 (tapi_Id.is enclos.1) (tB.is enclos.2)), .c (Asn.tuple2 (tapi_Id.is enclos.1) (tB.is enclos.2)), .c (tapi_Id.is enclos.1), .c (tB.is enclos.2), .f (fun cv => (Bp (bk (cv 0)) 0)), .c Asn.any, .c (tB.is enclos.2)] [([], [2]), ([0], []), ([], [2]), ([2], []), ([], [3]), ([4], []), ([5], []), ([6], []), ([7], []), ([1, 3, 8], []), ([9], []), ([10], []), ([10], []), ([], []), ([11, 13], []), ([12], [])] [13, 14] [[], [], [], [], [], [], [], [], [], [], [], [], [], [true], [], []] (fun m cv => match m with | 0 => [] | 1 => [(6, (Bx 3 true 23 (tapi_Id.is zapi_Id) (bk (cv 0))))] | _ => [(6, (Bx 3 true 23 (tapi_Id.is enclos.1) (bk (cv 0))))]) (fun _ => none) Try.mixed rfl rfl rfl rfl rfl ⟨fun _ _ _ _ => rfl, ⟨fun _ _ _ _ => rfl, ⟨fun _ _ _ _ => rfl, ⟨fun _ _ _ _ => rfl, ⟨fun _ _ _ _ => rfl, ⟨fun _ _ _ _ => rfl, ⟨fun _ _ _ _ => rfl, ⟨fun _ _ _ _ => rfl, ⟨fun _ _ _ _ => rfl, ⟨fun _ _ _ _ => rfl, ⟨fun _ _ _ _ => rfl, ⟨fun _ _ _ _ => rfl, ⟨fun _ _ _ _ => rfl, ⟨fun m hm c t => by simp only [DA.at, upd_dep (r := [true]) (j := 0) rfl hm], ⟨fun _ _ _ _ => rfl, ⟨fun _ _ _ _ => rfl, trivial⟩⟩⟩⟩⟩⟩⟩⟩⟩⟩⟩⟩⟩⟩⟩⟩ rfl ⟨mo fun cv => Op1.fieldAddr Try.underlying62 rfl (fun w => ⟨7, Try.sizeOf27 w⟩) fresolve_scene_0 (.tmp rfl), ⟨mo fun cv => Op1.load ty27 (.tmp rfl), ⟨mo fun cv => Op1.fieldAddr Try.underlying62 rfl (fun w => ⟨2, Try.sizeOf23 w⟩) fresolve_scene_1 (.tmp rfl), ⟨mo fun cv => Op1.load ty23 (.tmp rfl), ⟨mo fun cv => Op1.fieldAddr Try.underlying30 rfl (fun w => ⟨0, Try.sizeOf28 w⟩) fapi_Cite_1 (.tmp rfl), ⟨mo fun cv => Op1.load ty28 (.tmp rfl), ⟨mo fun cv => Op1.idx hv1 Try.underlying28 Try.sizeOf55 (.tmp rfl) .i64, ⟨mo fun cv => Op1.fieldAddr Try.underlying55 rfl (fun w => ⟨0, Try.sizeOf3 w⟩) fapi_Step_0 (.tmp rfl), ⟨mo fun cv => Op1.load ty3 (.tmp rfl), ⟨mo fun cv => Op1.call Try.call13 (resolve_Enclosing_spec _ _ _ _ _ hv2) ⟨(.tmp rfl), (.tmp rfl), (.tmp rfl), trivial⟩, ⟨mo fun cv => Op1.move (.tmp rfl), ⟨mo fun cv => Op1.extract0 (.tmp rfl), ⟨mo fun cv => Op1.extract1 (.tmp rfl), ⟨.inl rfl, ⟨.inl rfl, ⟨mo fun cv => Op1.assign (.tmp rfl), trivial⟩⟩⟩⟩⟩⟩⟩⟩⟩⟩⟩⟩⟩⟩⟩⟩ ⟨⟨_, _, _, [], (fun cv => [(6, (Bx 3 true 23 (tapi_Id.is zapi_Id) (bk (cv 0))))]), rfl, rfl, rfl, rfl, fun _ => rfl, fun _ _ => rfl, fun cv => OpR.viaB (OpR.alloc 6 ze23)⟩, ⟨⟨_, _, _, [6], (fun cv => [(6, (Bx 3 true 23 (tapi_Id.is enclos.1) (bk (cv 0))))]), rfl, rfl, rfl, rfl, fun _ => rfl, fun _ _ => rfl, fun cv => OpR.viaU (OpR.storeB (b := (bk (cv 0))) 6 Try.sizeOf23 (Cellable.is tapi_Id enclos.1) rfl (.tmp rfl) (.tmp rfl))⟩, trivial⟩⟩ (fun cv => ?_)
 refine WN.seq ?_
 refine W.seq ?_
 refine W.sr ?_
 refine WL.mv rfl rfl ?_
 refine WL.op rfl (.notB (.tmp rfl)) ?_
 refine WL.ns ?_
 refine W.cond (.tmp rfl) (fun hc3 => ?_) (fun hc3 => ?_)
 ·have hp4 := not_pos hc3
  rw [if_pos hp4] at hm
  refine W.sr ?_
  refine WL.op rfl (.assign (.nil (t := tapi_Id))) ?_
  refine WL.op rfl (.assign .i64) ?_
  refine WL.ns ?_
  cases hm
  exact W.ret2 () rfl rfl (.tmp rfl) (.tmp rfl) trivial
 ·have hp4 := not_neg hc3
  rw [if_neg hp4] at hm
  refine W.skip ?_
  refine WN.seq ?_
  refine W.seq ?_
  obtain ⟨v1, hv5, hm⟩ := bind_some hm
  obtain ⟨down, hv6, hm⟩ := bind_some hm
  refine W.draw [.c (tapi_Unit.ptr s0_.u_), .c (tapi_Unit.is s0_.u_), .c (tapi_Id.is enclos.1), .c ((tL tapi_Step).ptr c.Path), .c ((tL tapi_Step).is c.Path), .c ((tL tapi_Step).is v1), .c (Asn.tuple2 ((tL tapi_Id).is down.1) ((tI .i64).is down.2)), .c ((tL tapi_Id).is down.1), .c ((tI .i64).is down.2), .c ((tL tapi_Id).is down.1), .c ((tI .i64).is down.2)] [([], [2]), ([0], []), ([], [6]), ([], [3]), ([3], []), ([4], []), ([1, 2, 5], []), ([6], []), ([6], []), ([7], []), ([8], [])] Try.mixed rfl rfl rfl rfl ⟨.inr (Op1.fieldAddr Try.underlying62 rfl (fun w => ⟨7, Try.sizeOf27 w⟩) fresolve_scene_0 (.tmp rfl)), .inr (Op1.load ty27 (.tmp rfl)), .inr (Op1.loadB 6 Try.isAgg23 Try.sizeOf23 rfl (.tmp rfl)), .inr (Op1.fieldAddr Try.underlying30 rfl (fun w => ⟨0, Try.sizeOf28 w⟩) fapi_Cite_1 (.tmp rfl)), .inr (Op1.load ty28 (.tmp rfl)), .inr (Op1.slcLo hv5 Try.underlying28 Try.sizeOf55 (.tmp rfl) .i64), .inr (Op1.call Try.call65 (resolve_down_spec _ _ _ _ _ hv6) ⟨(.tmp rfl), (.tmp rfl), (.tmp rfl), trivial⟩), .inr (Op1.extract0 (.tmp rfl)), .inr (Op1.extract1 (.tmp rfl)), .inr (Op1.assign (.tmp rfl)), .inr (Op1.assign (.tmp rfl)), trivial⟩ ?_
  refine WN.seq ?_
  cases hm
  exact W.ret2 () rfl rfl (.tmp rfl) (.tmp rfl) trivial

theorem back66_spec (l : List api_Id) : FSpec Try.prog 66 [(tL tapi_Id).is l] (cloA 87 [(tL tapi_Id).ptr l]) := by
 refine FSpec.of Try.func66 rfl rfl rfl (fun g0 => ?_)
 refine W.sr ?_
 refine WL.op rfl (.box (.tmp rfl)) ?_
 refine WL.op rfl (.assign Opd.const) ?_
 refine WL.nil ?_
 refine WN.seq ?_
 refine W.sr ?_
 refine WL.op rfl (.makeClo (Cs := [(tL tapi_Id).ptr l]) (cap := [.tmp 1]) ⟨(.tmp rfl), trivial⟩) ?_
 refine WL.gv rfl rfl ?_
 refine WL.nil ?_
 refine WN.seq ?_
 exact W.ret1 () rfl (.tmp rfl) trivial

theorem back87 : Back Try.prog 87 tapi_Id := by
 intro g pv rs n hpv l J Jx W hW hJ hJx hY h0
 have hS0 : Stays g W := (Stays.refl g).below hW
 have hlim : rs.length ≤ lim := by
  obtain ⟨b, o, _, cs, ⟨p, c, _, _, h3, _⟩, _⟩ := hpv
  exact h3
 have hrange : ∀ k : Nat, k ≤ rs.length → inR .i64 ((rs.length : Int) - 1 - (k : Int)) := fun k hk => inR64.2 (by unfold lim at hlim; omega)
 have hJn : ∀ {s : List (Fin rs.length)} {ga gb : G}, J s ga.w → Ext No ga gb → J s gb.w := fun h e => hJ _ _ _ none h (grown_of e) (fun r e => by cases e)
 have hJxn : ∀ {s : List (Fin rs.length)} {ga gb : G}, Jx s ga.w → Ext No ga gb → Jx s gb.w := fun h e => hJx _ _ _ none h (grown_of e) (fun r e => by cases e)
 refine callsIn_of_wp Try.func87 rfl trivial ?_ rfl
 have hent : ∀ {a2 : Act} {w : World}, Stays g w → a2.tmps.getD 1 undef = pv → (Asn.both (Asn.eq pv) ((tL (tRaw tapi_Id)).ptr rs)).holds (a2.tmps.getD 1 undef) (g.at w) := fun hw he => ⟨he, by rw [he]; exact ((tL (tRaw tapi_Id)).ptr rs).mono hw.ext hpv⟩
 refine WR.begin (N := 19) (g := g.at W) (vs := [.func (.yield l) #[] #[], pv]) (As := [Asn.eq (.func (.yield l) #[] #[]), Asn.eq pv]) rfl rfl ⟨rfl, rfl, trivial⟩ ?_
 intro a g1 hst
 have hg1 : Stays g g1.w := hS0.on hst.ext
 have hJ1 : J [] g1.w := hJn (ga := g.at W) h0 hst.ext
 have hst1 := hst.eqs (L := [(0, .func (.yield l) #[] #[]), (1, pv)]) ⟨Ent.q rfl, Ent.q rfl, trivial⟩ (g.at g1.w)
 have hst2 := hst1.entry (hent hg1 (hst1.henv 1 _ rfl))
 refine WR.go (D := []) (g := g.at g1.w) (env := (1, Asn.both (Asn.eq pv) ((tL (tRaw tapi_Id)).ptr rs)) :: eqs [(0, .func (.yield l) #[] #[]), (1, pv)]) (res := []) (g0 := g.at g1.w) (T0 := No) (N := 19) ?_ hst2
 refine WR.seq ?_
 refine WR.region rfl ?_
 refine WL.op rfl (.load (t := tL (tRaw tapi_Id)) ⟨Try.isAgg31, Try.sizeOf31⟩ (Opd.weak (.tmp rfl) (fun _ _ h => h.2))) ?_
 refine WL.op rfl (.lenL Try.underlying31 (.tmp rfl)) ?_
 refine WL.op rfl (.subI (.tmp rfl) (.int (n := 1) (inR64.2 (by omega))) (inR64.2 (by unfold lim at hlim; omega))) ?_
 refine WL.op rfl (.assign (.tmp rfl)) ?_
 refine WL.nil ?_
 refine WN.wr ?_
 refine WR.block ?_
 refine WR.loopI (fun a w => ∃ k : Nat, k ≤ rs.length ∧ Stays g w ∧ J ((List.finRange rs.length).take k) w ∧ St 19 (g.at w) No (eqs [(3, .int .i64 ((rs.length : Int) - 1 - (k : Int))), (0, .func (.yield l) #[] #[]), (1, pv)]) [] a (g.at w))
  (fun a _ => match a.tmps.getD 3 undef with | .int _ q => (q + 1).toNat | _ => 0) ?_ ?_
 ·intro a2 g2 h2
  refine ⟨0, Nat.zero_le _, hg1.on h2.ext, ?_, h2.eqs (L := [(3, .int .i64 ((rs.length : Int) - 1 - ((0 : Nat) : Int))), (0, .func (.yield l) #[] #[]), (1, pv)]) ⟨Ent.w rfl (fun v g h => eq_of_int h (by simp)), Ent.q rfl, Ent.w rfl (fun v g h => h.1), trivial⟩ _⟩
  rw [List.take_zero]
  exact hJn (ga := g.at g1.w) hJ1 h2.ext
 ·rintro a2 w ⟨k, hk, hs, hj, hsk⟩
  have hq := hrange k hk
  have hsk' := hsk.entry (hent hs (hsk.henv 1 _ rfl))
  refine WR.go0 ?_ hsk' rfl
  refine WR.seq ?_
  refine WR.seq ?_
  refine WR.region rfl ?_
  refine WL.op rfl (.move (.tmp rfl)) ?_
  refine WL.op rfl (.geI (.eqInt hq (.tmp rfl)) (.int (n := 0) (inR64.2 (by omega)))) ?_
  refine WL.nil ?_
  refine WN.wr ?_
  refine WR.cond (.tmp rfl) (fun hc => ?_) (fun hc => ?_)
  ·have hlt : k < rs.length := by have := of_decide_eq_true hc; omega
   refine WR.skipS ?_
   refine WR.seq ?_
   refine WR.block ?_
   refine WR.seq ?_
   refine WR.regionI ?_
   refine WLI.op rfl rfl (Op1.move (.tmp rfl)) ?_
   refine WLI.op rfl rfl (Op1.move (.tmp rfl)) ?_
   refine WLI.op rfl rfl (Op1.load (t := tL (tRaw tapi_Id)) ⟨Try.isAgg31, Try.sizeOf31⟩ (Opd.weak (.tmp rfl) (fun _ _ h => h.2))) ?_
   refine WLI.op rfl rfl (Op1.move (.tmp rfl)) ?_
   refine WLI.op rfl rfl (Op1.idx (idx_back (d := []) hlt) Try.underlying31 Try.sizeOf23 (.tmp rfl) (.eqInt hq (.tmp rfl))) ?_
   refine WLI.op rfl rfl (Op1.load (t := tRaw tapi_Id) ⟨Try.isAgg23, Try.sizeOf23⟩ (.tmp rfl)) ?_
   refine WLI.yield (t := tapi_Id) (A := fun W' => J ((List.finRange rs.length).take (k + 1)) W' ∧ Stays g W') (B := fun W' => Jx ((List.finRange rs.length).take (k + 1)) W') (.tmp rfl) (.eqInt hq (.tmp rfl)) (.tmp rfl) (fun a3 g3 h3 => ?_) (fun a3 g3 w3 b h3 hA hB => ?_)
   ·have hj3 : J ((List.finRange rs.length).take k) g3.w := hJn (ga := g.at w) hj h3.ext
    obtain ⟨fn, tmps, assign, body, hy, hR⟩ := hY _ ⟨k, hlt⟩ g3.w hj3 (by simp; omega)
    refine ⟨fn, tmps, assign, body, hy, hR.mono ?_⟩
    rw [take_next hlt]
    rintro e W' (⟨h1, h2, h4⟩ | ⟨h1, h2⟩)
    ·exact .inl ⟨h1, h2, h4 (hs.on h3.ext)⟩
    ·exact .inr ⟨h1, h2⟩
   ·have h4 := h3.eqs (L := [(3, .int .i64 ((rs.length : Int) - 1 - (k : Int))), (0, .func (.yield l) #[] #[]), (1, pv)]) ⟨.q rfl, .q rfl, Ent.w rfl (fun v g h => h.1), trivial⟩ (g.at w3)
    have h5 := h4.put (d := 17) (v := .bool b) (A := tB.is b) (by decide) (Ext.refl _ _) ⟨_, rfl, rfl⟩
    refine (?_ : WLI Try.prog none n 19 (g.at w3) No _ _ _ _ []) _ _ h5
    refine WLI.op rfl rfl (Op1.notB (.tmp rfl)) ?_
    refine WLI.nil (fun a5 g5 h6 => ?_)
    change Code.wpIn (ring none) n Try.prog _ _ a5 g5.w
    refine WR.go0 ?_ h6 rfl
    refine WR.cond (.tmp rfl) (fun hb => ?_) (fun hb => ?_)
    ·have hbf : b = false := by simpa using hb
     refine WR.ret (fun a6 g6 h7 => ?_)
     rw [sh_nil]
     show _ ∧ _
     exact ⟨h7.dfr, _, results_none rfl _ _ _, ⟨_, rfl⟩, .inr ⟨_, List.take_prefix _ _, hJxn (ga := g.at w3) (hB hbf) h7.ext⟩⟩
    ·have hbt : b = true := by simpa using hb
     obtain ⟨hA1, hA2⟩ := hA hbt
     refine WR.skip (fun a6 g6 h7 => ?_)
     change Code.wpIn (ring none) n Try.prog _ _ (sh [] a6) g6.w
     rw [sh_nil]
     refine WR.go0 ?_ h7 rfl
     refine WR.region rfl ?_
     refine WL.op rfl (.move (.tmp rfl)) ?_
     refine WL.op rfl (.subI (.eqInt hq (.tmp rfl)) (.int (n := 1) (inR64.2 (by omega))) (inR64.2 (by unfold lim at hlim; omega))) ?_
     refine WL.op rfl (.assign (.tmp rfl)) ?_
     refine WL.nil ?_
     intro a7 g7 h8
     show _ ∧ _
     rw [sh_nil]
     have h9 := h8.eqs (L := [(3, .int .i64 ((rs.length : Int) - 1 - ((k + 1 : Nat) : Int))), (0, .func (.yield l) #[] #[]), (1, pv)]) ⟨Ent.w rfl (fun v g h => eq_of_int h (by omega)), .q rfl, .q rfl, trivial⟩ (g.at g7.w)
     have hS7 : Stays g g7.w := hA2.on h8.ext
     refine ⟨⟨k + 1, hlt, hS7, hJn (ga := g.at w3) hA1 h8.ext, h9⟩, ?_⟩
     have e1 : a7.tmps.getD 3 undef = _ := h9.henv 3 _ rfl
     have e2 : a2.tmps.getD 3 undef = _ := hsk.henv 3 _ rfl
     rw [e1, e2]
     show ((rs.length : Int) - 1 - ((k + 1 : Nat) : Int) + 1).toNat < ((rs.length : Int) - 1 - (k : Int) + 1).toNat
     omega
  ·have hge : k = rs.length := by have := of_decide_eq_false hc; omega
   refine WR.exit (fun a3 g3 h3 => ?_)
   have hj3 : J ((List.finRange rs.length).take k) g3.w := hJn (ga := g.at w) hj h3.ext
   have hfull : (List.finRange rs.length).take k = List.finRange rs.length := List.take_of_length_le (by simp; omega)
   rw [hfull] at hj3
   refine then_exit (then_exit (inBlock_exit ?_))
   rw [sh_nil]
   show _ ∧ _
   exact ⟨h3.dfr, _, results_none rfl _ _ _, ⟨_, rfl⟩, .inl ⟨_, rfl, hj3⟩⟩


theorem resolve_said_spec (n : Nat) (s : resolve_scene) (c : api_Cite) (r : (List api_Id) × Int) (hm : M.resolve_said n s c = some r) : FSpec Try.prog 44 [tresolve_scene.is s, tapi_Cite.is c] (Asn.tuple2 ((tL tapi_Id).is r.1) ((tI .i64).is r.2)) := by
 unfold M.resolve_said at hm
 obtain ⟨v, hv, hm⟩ := bind_some hm
 intro g0 vs hvs
 refine (callsIn_wide (n := 3)).1 (callsIn_of_wp_marks Try.func44 rfl trivial ?_ rfl)
 refine WR.begin (As := [tresolve_scene.is s, tapi_Cite.is c]) (N := 42) rfl rfl hvs ?_
 refine WR.seq ?_
 refine WR.region rfl ?_
 refine WL.op rfl (.box (.tmp rfl)) ?_
 refine WL.op rfl (.box (.tmp rfl)) ?_
 refine WL.opR rfl (OpR.alloc 4 ze31) (fun b4 => ?_)
 refine WL.opR rfl (OpR.alloc 5 ze35) (fun b5 => ?_)
 refine WL.nil ?_
 refine WN.wr ?_
 refine WR.seq ?_
 refine WR.seq ?_
 refine WR.region rfl ?_
 refine WL.op rfl (.fieldAddr Try.underlying62 rfl (fun w => ⟨0, Try.sizeOf31 w⟩) fresolve_scene_2 (.tmp rfl)) ?_
 refine WL.op rfl (.load ty31 (.tmp rfl)) ?_
 refine WL.op rfl (.call Try.call66 (back66_spec _) ⟨.tmp rfl, trivial⟩) ?_
 refine WL.nil ?_
 refine WN.wr ?_
 refine WR.block ?_
 refine WR.weaken (env' := [(12, cloA 87 [(tL tapi_Id).ptr s.said_]), (5, Bp b5 0), (4, Bp b4 0), (3, tapi_Cite.ptr c), (2, tresolve_scene.ptr s)]) (res' := [(4, Bx 1 false 31 ((tL tapi_Id).is ([] : List api_Id)) b4), (5, Bx 1 false 35 ((tI .i64).is (0 : Int)) b5)]) ⟨.q rfl, .q rfl, .q rfl, .q rfl, .q rfl, trivial⟩ ⟨rfl, rfl, ⟨rfl, rfl, trivial⟩⟩ ?_
 refine WR.back (kD := 99) (v := v) (t := tapi_Id) (xs := s.said_) (st := M.resolve_said_step n s c) (resX := fun r : (List api_Id) × Int => [(4, Bx 1 false 31 ((tL tapi_Id).is r.1) b4), (5, Bx 1 false 35 ((tI .i64).is r.2) b5)])
  (envA := fun x => [(7, tapi_Id.ptr x), (5, Bp b5 0), (4, Bp b4 0), (3, tapi_Cite.ptr c), (2, tresolve_scene.ptr s)]) back87 (by omega) Try.call87 rfl hv rfl rfl rfl rfl rfl rfl ?hA ?hB ?hX ?hdone ?hstop
 case hA =>
  intro g1 x B hk
  refine WL.opR rfl (OpR.alloc 7 ze23) (fun b7 => ?_)
  refine WL.opU (OpR.storeB (b := b7) 7 Try.sizeOf23 (Cellable.is tapi_Id x) rfl (.tmp rfl) (.tmp rfl)) (fun _ => ?_)
  refine WL.sealed (t := tapi_Id) (u := x) 7 7 rfl rfl ?_
  refine WL.nil ?_
  refine WN.weaken ?_ ?_ hk
  ·exact ⟨.q rfl, .q rfl, .q rfl, .q rfl, .q rfl, trivial⟩
  ·exact ⟨rfl, rfl, ⟨rfl, rfl, trivial⟩⟩
 case hX =>
  rintro r b ⟨y, hy, hb⟩
  rcases List.mem_cons.1 hy with rfl | hy
  ·exact ⟨_, List.mem_cons_self, hb⟩
  ·rw [List.mem_singleton.1 hy] at hb
   exact ⟨_, List.mem_cons_of_mem _ List.mem_cons_self, hb⟩
 case hdone =>
  intro hn a' g' D hst
  subst hn
  cases hm
  change Code.wpIn (ring none) 3 Try.prog _ _ (sh (markD D) a') g'.w
  refine WR.go ?_ hst
  refine WR.seq ?_
  refine WR.region rfl ?_
  refine WL.opU (OpR.storeB (b := b4) 4 Try.sizeOf31 (Cellable.is (tL tapi_Id) ([] : List api_Id)) rfl (.tmp rfl) (.nil (t := tapi_Id))) (fun _ => ?_)
  refine WL.opU (OpR.storeB (b := b5) 5 Try.sizeOf35 (Cellable.is (tI .i64) (7 : Int)) rfl (.tmp rfl) .i64) (fun _ => ?_)
  refine WL.nil ?_
  refine WN.wr ?_
  refine WR.ret (fun a9 g9 h9 => ?_)
  exact leave2 (kD := 99) (h9.weaken (env' := [(5, Bp b5 0), (4, Bp b4 0)]) (res' := [(99, Dq D), (4, Bx 1 false 31 ((tL tapi_Id).is ([] : List api_Id)) b4), (5, Bx 1 false 35 ((tI .i64).is (7 : Int)) b5)]) ⟨.q rfl, .q rfl, trivial⟩ ⟨rfl, rfl, rfl, rfl, rfl, rfl, trivial⟩) rfl (ResAt.cell 4 Try.isAgg31 Try.sizeOf31 rfl (.tmp rfl)) (ResAt.cell 5 Try.isAgg35 Try.sizeOf35 rfl (.tmp rfl))
 case hstop =>
  intro r2 hr a' g' D hst
  subst hr
  cases hm
  exact leave2 (kD := 99) hst rfl (ResAt.cell 4 Try.isAgg31 Try.sizeOf31 rfl (.tmp rfl)) (ResAt.cell 5 Try.isAgg35 Try.sizeOf35 rfl (.tmp rfl))
 case hB =>
  intro l n1 g1 x o Q' hm hN hR
  unfold M.resolve_said_step at hm
  refine WR.block ?_
  refine WR.seq ?_
  refine WR.region rfl ?_
  refine WL.op rfl (.fieldAddr Try.underlying62 rfl (fun w => ⟨7, Try.sizeOf27 w⟩) fresolve_scene_0 (.tmp rfl)) ?_
  refine WL.op rfl (.load ty27 (.tmp rfl)) ?_
  refine WL.op rfl (.load ty23 (.tmp rfl)) ?_
  obtain ⟨find, hv1, hm⟩ := bind_some hm
  refine WL.op rfl (.call Try.call31 (unit_Find_spec _ _ _ _ hv1) ⟨(.tmp rfl), (.tmp rfl), trivial⟩) ?_
  refine WL.mv rfl rfl ?_
  refine WL.op rfl (.extract0 (.tmp rfl)) ?_
  refine WL.op rfl (.extract1 (.tmp rfl)) ?_
  refine WL.opR rfl (OpR.alloc 8 ze27) (fun b => ?_)
  refine WL.opU (OpR.storeB (b := b) 8 Try.sizeOf27 (Cellable.is tapi_Unit find.1) rfl (.tmp rfl) (.tmp rfl)) (fun _ => ?_)
  refine WL.sealed (t := tapi_Unit) (u := find.1) 8 8 rfl rfl ?_
  refine WL.op rfl (.assign (.tmp rfl)) ?_
  refine WL.nil ?_
  refine WN.wr ?_
  refine WR.seq ?_
  rcases bcases (find.2) with hb2 | hb2
  ·have hp3 := hb2
   rw [if_pos hp3] at hm
   obtain ⟨v, hv4, hm⟩ := bind_some hm
   refine WR.draw Try.mixed rfl (WA.draw [.c (tB.is find.2), .c (tB.is find.2), .c ((tI .i64).ptr find.1.Kind), .c ((tI .i64).is find.1.Kind), .c ((tL tapi_Step).ptr c.Path), .c ((tL tapi_Step).is c.Path), .c (tapi_Step.ptr v), .c ((tI .i64).ptr v.Kind), .c ((tI .i64).is v.Kind), .c (tB.is (decide (find.1.Kind = v.Kind))), .c (tB.is (decide (find.1.Kind = v.Kind)))] [([], [9]), ([0], []), ([1], [8]), ([1, 2], []), ([1], [3]), ([1, 4], []), ([1, 5], []), ([1, 6], []), ([1, 7], []), ([1, 3, 8], []), ([1, 9], [])] Try.mixed rfl rfl rfl rfl ⟨.inr (Op1.move (.tmp rfl)), .inr (Op1.move (.tmp rfl)), .inr (dr rfl rfl rfl hb2 (Op1.fieldAddr Try.underlying27 rfl (fun w => ⟨0, Try.sizeOf3 w⟩) fapi_Unit_1 (.tmp rfl))), .inr (dr rfl rfl rfl hb2 (Op1.load ty3 (.tmp rfl))), .inr (dr rfl rfl rfl hb2 (Op1.fieldAddr Try.underlying30 rfl (fun w => ⟨0, Try.sizeOf28 w⟩) fapi_Cite_1 (.tmp rfl))), .inr (dr rfl rfl rfl hb2 (Op1.load ty28 (.tmp rfl))), .inr (dr rfl rfl rfl hb2 (Op1.idx hv4 Try.underlying28 Try.sizeOf55 (.tmp rfl) .i64)), .inr (dr rfl rfl rfl hb2 (Op1.fieldAddr Try.underlying55 rfl (fun w => ⟨0, Try.sizeOf3 w⟩) fapi_Step_0 (.tmp rfl))), .inr (dr rfl rfl rfl hb2 (Op1.load ty3 (.tmp rfl))), .inr (dr rfl rfl rfl hb2 (Op1.eqI (.tmp rfl) (.tmp rfl))), .inr (Op1.pickT (.tmp rfl) hb2 (.tmp rfl)), trivial⟩ ?_)
   refine WN.wr ?_
   refine WR.cond (.tmp rfl) (fun hc5 => ?_) (fun hc5 => ?_)
   ·have hp6 := of_decide_eq_true hc5
    rw [if_pos hp6] at hm
    refine WR.seq ?_
    obtain ⟨v1, hv7, hm⟩ := bind_some hm
    obtain ⟨down, hv8, hm⟩ := bind_some hm
    refine WR.weakR (res' := [(4, (Bx 1 false 31 ((tL tapi_Id).is ([] : List api_Id)) b4)), (5, (Bx 1 false 35 ((tI .i64).is (0 : Int)) b5))]) ⟨rfl, rfl, ⟨rfl, rfl, trivial⟩⟩ ?_
    refine WR.draw Try.mixed rfl (WA.drawM [.c (tapi_Unit.ptr s.u_), .c (tapi_Unit.is s.u_), .c (tapi_Id.is x), .c ((tL tapi_Step).ptr c.Path), .c ((tL tapi_Step).is c.Path), .c ((tL tapi_Step).is v1), .c (Asn.tuple2 ((tL tapi_Id).is down.1) ((tI .i64).is down.2)), .c ((tL tapi_Id).is down.1), .c ((tI .i64).is down.2), .c Asn.any, .c Asn.any] [([], [2]), ([0], []), ([], [7]), ([], [3]), ([3], []), ([4], []), ([1, 2, 5], []), ([6], []), ([6], []), ([7], [4]), ([8], [5])] [9, 10] [[], [], [], [], [], [], [], [], [], [], []] (fun m cv => match m with | 0 => [(4, (Bx 1 false 31 ((tL tapi_Id).is ([] : List api_Id)) b4)), (5, (Bx 1 false 35 ((tI .i64).is (0 : Int)) b5))] | 1 => [(4, (Bx 1 false 31 ((tL tapi_Id).is down.1) b4)), (5, (Bx 1 false 35 ((tI .i64).is (0 : Int)) b5))] | _ => [(5, (Bx 1 false 35 ((tI .i64).is down.2) b5)), (4, (Bx 1 false 31 ((tL tapi_Id).is down.1) b4))]) (fun _ => none) Try.mixed rfl rfl rfl rfl rfl ⟨fun _ _ _ _ => rfl, ⟨fun _ _ _ _ => rfl, ⟨fun _ _ _ _ => rfl, ⟨fun _ _ _ _ => rfl, ⟨fun _ _ _ _ => rfl, ⟨fun _ _ _ _ => rfl, ⟨fun _ _ _ _ => rfl, ⟨fun _ _ _ _ => rfl, ⟨fun _ _ _ _ => rfl, ⟨fun _ _ _ _ => rfl, ⟨fun _ _ _ _ => rfl, trivial⟩⟩⟩⟩⟩⟩⟩⟩⟩⟩⟩ rfl ⟨mo fun cv => Op1.fieldAddr Try.underlying62 rfl (fun w => ⟨7, Try.sizeOf27 w⟩) fresolve_scene_0 (.tmp rfl), ⟨mo fun cv => Op1.load ty27 (.tmp rfl), ⟨mo fun cv => Op1.load ty23 (.tmp rfl), ⟨mo fun cv => Op1.fieldAddr Try.underlying30 rfl (fun w => ⟨0, Try.sizeOf28 w⟩) fapi_Cite_1 (.tmp rfl), ⟨mo fun cv => Op1.load ty28 (.tmp rfl), ⟨mo fun cv => Op1.slcLo hv7 Try.underlying28 Try.sizeOf55 (.tmp rfl) .i64, ⟨mo fun cv => Op1.call Try.call65 (resolve_down_spec _ _ _ _ _ hv8) ⟨(.tmp rfl), (.tmp rfl), (.tmp rfl), trivial⟩, ⟨mo fun cv => Op1.extract0 (.tmp rfl), ⟨mo fun cv => Op1.extract1 (.tmp rfl), ⟨.inl rfl, ⟨.inl rfl, trivial⟩⟩⟩⟩⟩⟩⟩⟩⟩⟩⟩ ⟨⟨_, _, _, [4], (fun cv => [(4, (Bx 1 false 31 ((tL tapi_Id).is down.1) b4))]), rfl, rfl, rfl, rfl, fun _ => rfl, fun _ _ => rfl, fun cv => OpR.viaU (OpR.storeB (b := b4) 4 Try.sizeOf31 (Cellable.is (tL tapi_Id) down.1) rfl (.tmp rfl) (.tmp rfl))⟩, ⟨⟨_, _, _, [5], (fun cv => [(5, (Bx 1 false 35 ((tI .i64).is down.2) b5))]), rfl, rfl, rfl, rfl, fun _ => rfl, fun _ _ => rfl, fun cv => OpR.viaU (OpR.storeB (b := b5) 5 Try.sizeOf35 (Cellable.is (tI .i64) down.2) rfl (.tmp rfl) (.tmp rfl))⟩, trivial⟩⟩ (fun cv => ?_))
    refine WN.wr ?_
    refine WR.ret (fun a9 g9 h9 => ?_)
    cases hm
    show Q' .ret (sh [] _) _
    rw [sh_nil]
    exact hR _ rfl _ _ (h9.weaken trivial ⟨rfl, rfl, ⟨rfl, rfl, trivial⟩⟩)
   ·have hp6 := of_decide_eq_false hc5
    rw [if_neg hp6] at hm
    refine WR.skip (fun a9 g9 h9 => ?_)
    cases hm
    show Q' .normal (sh [] _) _
    rw [sh_nil]
    exact hN rfl _ _ (h9.weaken trivial ⟨rfl, rfl, ⟨rfl, rfl, trivial⟩⟩)
  ·have hp3 := ne_of_false hb2
   rw [if_neg hp3] at hm
   refine WR.draw Try.mixed rfl (WA.draw [.c (tB.is find.2), .c (tB.is find.2), .c (Asn.eq undef), .c (Asn.eq undef), .c (Asn.eq undef), .c (Asn.eq undef), .c (Asn.eq undef), .c (Asn.eq undef), .c (Asn.eq undef), .c (Asn.eq undef), .c (tB.is false)] [([], [9]), ([0], []), ([1], [8]), ([1, 2], []), ([1], [3]), ([1, 4], []), ([1, 5], []), ([1, 6], []), ([1, 7], []), ([1, 3, 8], []), ([1, 9], [])] Try.mixed rfl rfl rfl rfl ⟨.inr (Op1.move (.tmp rfl)), .inr (Op1.move (.tmp rfl)), .inr (dp rfl rfl rfl hb2), .inr (dp rfl rfl rfl hb2), .inr (dp rfl rfl rfl hb2), .inr (dp rfl rfl rfl hb2), .inr (dp rfl rfl rfl hb2), .inr (dp rfl rfl rfl hb2), .inr (dp rfl rfl rfl hb2), .inr (dp rfl rfl rfl hb2), .inr (Op1.pickF (.tmp rfl) hb2 .bool), trivial⟩ ?_)
   refine WN.wr ?_
   refine WR.condF (.tmp rfl) ?_
   refine WR.skip (fun a9 g9 h9 => ?_)
   cases hm
   show Q' .normal (sh [] _) _
   rw [sh_nil]
   exact hN rfl _ _ (h9.weaken trivial ⟨rfl, rfl, ⟨rfl, rfl, trivial⟩⟩)

theorem resolve_meanings_1_spec (a : resolve_scene) (a1 : api_Cite) (r : (List api_Id) × Int) (hm : M.resolve_meanings_1 a a1 = some r) : FSpec Try.prog 45 [(tresolve_scene.is a), (tapi_Cite.is a1)] (Asn.tuple2 ((tL tapi_Id).is r.1) ((tI .i64).is r.2)) := by
 unfold M.resolve_meanings_1 at hm
 refine FSpec.of Try.func45 rfl rfl rfl (fun g0 => ?_)
 refine W.sr ?_
 refine WL.op rfl (.box (.tmp rfl)) ?_
 refine WL.op rfl (.box (.tmp rfl)) ?_
 refine WL.op rfl (.assign (.nil (t := tapi_Id))) ?_
 refine WL.op rfl (.assign .i64) ?_
 refine WL.nr ?_
 refine WL.op rfl (.assign (.nil (t := tapi_Id))) ?_
 refine WL.op rfl (.assign .i64) ?_
 refine WL.ns ?_
 cases hm
 exact W.ret2 () rfl rfl (.tmp rfl) (.tmp rfl) trivial

end Go.Proofs.Ytlegkjbldofkmaa
