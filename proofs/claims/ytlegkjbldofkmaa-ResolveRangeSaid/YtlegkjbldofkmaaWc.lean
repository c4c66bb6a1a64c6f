/-
  The code does what the models say: written by program.
-/
import Derived.Test.YtlegkjbldofkmaaWb
set_option linter.unusedVariables false
set_option linter.unusedSimpArgs false
namespace Go.Proofs.Ytlegkjbldofkmaa
open Go Go.Dec

set_option maxRecDepth 100000
set_option maxHeartbeats 4000000
theorem r20_plain_spec (n : Nat) (p : List api_Step) (r : Bool) (hm : M.r20_plain n p = some r) : FSpec Try.prog 49 [((tL tapi_Step).is p)] (tB.is r) := by
 unfold M.r20_plain at hm
 refine FSpec.of Try.func49 rfl rfl rfl (fun g0 => ?_)
 refine W.sr ?_
 refine WL.op rfl (.assign .bool) ?_
 refine WL.ns ?_
 obtain ⟨s1, hs2, hk3⟩ := bind_some hm
 clear hm
 refine W.join (fun s : (List api_Step) => s = s1) (fun s => [(0, ((tL tapi_Step).is s))]) (fun s => []) ?_ ?_
 ·rintro p1 hj16
  try dsimp only at hj16
  subst hj16
  have hm := hk3
  clear hk3
  try dsimp only at hm
  change W _ _ _ _ _ _ _ [(0, ((tL tapi_Step).is p1))] []
  refine W.sr ?_
  refine WL.mv rfl rfl ?_
  refine WL.op rfl (.lenL Try.underlying28 (.tmp rfl)) ?_
  refine WL.op rfl (.gtI (.tmp rfl) .i64) ?_
  refine WL.mv rfl rfl ?_
  rcases bcases (decide ((0 : Int) < (p1.length : Int))) with hb13 | hb13
  ·have hp14 := of_decide_eq_true hb13
   rw [if_pos hp14] at hm
   refine WL.run rfl rfl rfl rfl hb13 rfl rfl (Op1.move (.tmp rfl)) ?_
   obtain ⟨steps, hv15, hm⟩ := bind_some hm
   refine WL.run rfl rfl rfl rfl hb13 rfl rfl (Op1.call Try.call52 (r20_steps_spec _ _ _ hv15) ⟨(.tmp rfl), trivial⟩) ?_
   refine WL.op rfl (.pickT (.tmp rfl) hb13 (.tmp rfl)) ?_
   refine WL.gv rfl rfl ?_
   refine WL.ns ?_
   cases hm
   exact W.ret1 () rfl (.tmp rfl) trivial
  ·have hp14 := of_decide_eq_false hb13
   rw [if_neg hp14] at hm
   iterate 2 refine WL.pass rfl rfl rfl rfl hb13 rfl rfl ?_
   refine WL.op rfl (.pickF (.tmp rfl) hb13 .bool) ?_
   refine WL.gv rfl rfl ?_
   refine WL.ns ?_
   cases hm
   exact W.ret1 () rfl (.tmp rfl) trivial
 ·have hm := hs2
  clear hs2
  refine W.sr ?_
  refine WL.mv rfl rfl ?_
  refine WL.op rfl (.lenL Try.underlying28 (.tmp rfl)) ?_
  refine WL.op rfl (.gtI (.tmp rfl) .i64) ?_
  refine WL.mv rfl rfl ?_
  rcases bcases (decide ((0 : Int) < (p.length : Int))) with hb4 | hb4
  ·have hp5 := of_decide_eq_true hb4
   rw [if_pos hp5] at hm
   refine WL.run rfl rfl rfl rfl hb4 rfl rfl (Op1.move (.tmp rfl)) ?_
   obtain ⟨v, hv6, hm⟩ := bind_some hm
   refine WL.run rfl rfl rfl rfl hb4 rfl rfl (Op1.idx hv6 Try.underlying28 Try.sizeOf55 (.tmp rfl) .i64) ?_
   refine WL.run rfl rfl rfl rfl hb4 rfl rfl (Op1.fieldAddr Try.underlying55 rfl (fun w => ⟨0, Try.sizeOf3 w⟩) fapi_Step_0 (.tmp rfl)) ?_
   refine WL.run rfl rfl rfl rfl hb4 rfl rfl (Op1.load ty3 (.tmp rfl)) ?_
   refine WL.run rfl rfl rfl rfl hb4 rfl rfl (Op1.eqI (.tmp rfl) .i64) ?_
   refine WL.op rfl (.pickT (.tmp rfl) hb4 (.tmp rfl)) ?_
   refine WL.mv rfl rfl ?_
   rcases bcases (decide (v.Kind = (0 : Int))) with hb7 | hb7
   ·have hp8 := of_decide_eq_true hb7
    rw [if_pos hp8] at hm
    refine WL.run rfl rfl rfl rfl hb7 rfl rfl (Op1.move (.tmp rfl)) ?_
    obtain ⟨v1, hv9, hm⟩ := bind_some hm
    refine WL.run rfl rfl rfl rfl hb7 rfl rfl (Op1.idx hv9 Try.underlying28 Try.sizeOf55 (.tmp rfl) .i64) ?_
    refine WL.run rfl rfl rfl rfl hb7 rfl rfl (Op1.fieldAddr Try.underlying55 rfl (fun w => ⟨0, Try.sizeOf9 w⟩) fapi_Step_1 (.tmp rfl)) ?_
    refine WL.run rfl rfl rfl rfl hb7 rfl rfl (Op1.load ty9 (.tmp rfl)) ?_
    refine WL.run rfl rfl rfl rfl hb7 rfl rfl (Op1.eqS (.tmp rfl) (.str rfl (by decide))) ?_
    refine WL.op rfl (.pickT (.tmp rfl) hb7 (.tmp rfl)) ?_
    refine WL.ns ?_
    refine W.cond (.tmp rfl) (fun hc10 => ?_) (fun hc10 => ?_)
    ·have hp11 := hc10
     rw [if_pos hp11] at hm
     refine W.region ?_
     refine WL.mv rfl rfl ?_
     obtain ⟨v2, hv12, hm⟩ := bind_some hm
     refine WL.op rfl (.slcLo hv12 Try.underlying28 Try.sizeOf55 (.tmp rfl) .i64) ?_
     refine WL.gv rfl rfl ?_
     refine WL.nil ?_
     exact WN.meet v2 (Option.some.inj hm) ⟨Ent.q rfl, trivial⟩ trivial
    ·have hp11 := ne_of_false hc10
     rw [if_neg hp11] at hm
     refine W.skip ?_
     exact WN.meet p (Option.some.inj hm) ⟨Ent.q rfl, trivial⟩ trivial
   ·have hp8 := of_decide_eq_false hb7
    rw [if_neg hp8] at hm
    iterate 5 refine WL.pass rfl rfl rfl rfl hb7 rfl rfl ?_
    refine WL.op rfl (.pickF (.tmp rfl) hb7 .bool) ?_
    refine WL.ns ?_
    refine W.condF (.tmp rfl) ?_
    refine W.skip ?_
    exact WN.meet p (Option.some.inj hm) ⟨Ent.q rfl, trivial⟩ trivial
  ·have hp5 := of_decide_eq_false hb4
   rw [if_neg hp5] at hm
   iterate 5 refine WL.pass rfl rfl rfl rfl hb4 rfl rfl ?_
   refine WL.op rfl (.pickF (.tmp rfl) hb4 .bool) ?_
   refine WL.mv rfl rfl ?_
   iterate 5 refine WL.pass rfl rfl rfl rfl rfl rfl rfl ?_
   refine WL.op rfl (.pickF (.tmp rfl) rfl .bool) ?_
   refine WL.ns ?_
   refine W.condF (.tmp rfl) ?_
   refine W.skip ?_
   exact WN.meet p (Option.some.inj hm) ⟨Ent.q rfl, trivial⟩ trivial

theorem r20_Plurals_spec  (r : (List Str)) (hm : M.r20_Plurals  = some r) : FSpec Try.prog 51 [] ((tL tS).is r) := by
 unfold M.r20_Plurals at hm
 refine FSpec.of Try.func51 rfl rfl rfl (fun g0 => ?_)
 refine W.sr ?_
 refine WL.op rfl (.assign (.nil (t := tS))) ?_
 refine WL.nr ?_
 refine WL.op rfl (.buildSlice (n := 7) (ys := [(0, ([112, 97, 114, 116, 115] : Str)), (1, ([115, 101, 99, 116, 105, 111, 110, 115] : Str)), (2, ([112, 97, 114, 97, 103, 114, 97, 112, 104, 115] : Str)), (3, ([116, 97, 98, 108, 101, 115] : Str)), (4, ([114, 111, 119, 115] : Str)), (5, ([] : Str)), (6, ([110, 111, 116, 101, 115] : Str))]) (z := ([] : Str)) (xs := [([112, 97, 114, 116, 115] : Str), ([115, 101, 99, 116, 105, 111, 110, 115] : Str), ([112, 97, 114, 97, 103, 114, 97, 112, 104, 115] : Str), ([116, 97, 98, 108, 101, 115] : Str), ([114, 111, 119, 115] : Str), ([] : Str), ([110, 111, 116, 101, 115] : Str)]) Try.underlying77 el9 ze9 ⟨rfl, (.str rfl (by decide)), rfl, (.str rfl (by decide)), rfl, (.str rfl (by decide)), rfl, (.str rfl (by decide)), rfl, (.str rfl (by decide)), rfl, (.str rfl (by decide)), rfl, (.str rfl (by decide)), trivial⟩ (by simp) (by decide) rfl) ?_
 refine WL.gv rfl rfl ?_
 refine WL.ns ?_
 cases hm
 exact W.ret1 () rfl (.tmp rfl) trivial

theorem r20_May_spec (n : Nat) (c : api_Cite) (r : Bool) (hm : M.r20_May n c = some r) : FSpec Try.prog 26 [(tapi_Cite.is c)] (tB.is r) := by
 unfold M.r20_May at hm
 refine FSpec.of Try.func26 rfl rfl rfl (fun g0 => ?_)
 refine W.sr ?_
 refine WL.op rfl (.box (.tmp rfl)) ?_
 refine WL.op rfl (.assign .bool) ?_
 refine WL.ns ?_
 refine W.seq ?_
 obtain ⟨s1, hs2, hk3⟩ := bind_some hm
 clear hm
 refine W.join (fun s : Bool => s = s1) (fun s => [(12, (tB.is s)), (1, (tapi_Cite.ptr c))]) (fun s => []) ?_ ?_
 ·rintro v hj53
  try dsimp only at hj53
  subst hj53
  have hm := hk3
  clear hk3
  try dsimp only at hm
  change W _ _ _ _ _ _ _ [(12, (tB.is v)), (1, (tapi_Cite.ptr c))] []
  refine W.cond (.tmp rfl) (fun hc6 => ?_) (fun hc6 => ?_)
  ·have hp7 := hc6
   rw [if_pos hp7] at hm
   refine W.sr ?_
   refine WL.op rfl (.assign .bool) ?_
   refine WL.ns ?_
   cases hm
   exact W.ret1 () rfl (.tmp rfl) trivial
  ·have hp7 := ne_of_false hc6
   rw [if_neg hp7] at hm
   refine W.skip ?_
   refine WN.seq ?_
   refine W.seq ?_
   refine W.sr ?_
   refine WL.op rfl (.fieldAddr Try.underlying30 rfl (fun w => ⟨0, Try.sizeOf3 w⟩) fapi_Cite_0 (.tmp rfl)) ?_
   refine WL.op rfl (.load ty3 (.tmp rfl)) ?_
   refine WL.ns ?_
   refine W.block ?_
   obtain ⟨s8, hs9, hk10⟩ := bind_some hm
   clear hm
   refine W.join (fun s : Bool => s = s8) (fun s => [(15, (tB.is s)), (1, (tapi_Cite.ptr c)), (14, ((tI .i64).is c.Kind))]) (fun s => []) ?_ ?_
   ·rintro v1 hj52
    try dsimp only at hj52
    subst hj52
    have hm := hk10
    clear hk10
    try dsimp only at hm
    change W _ _ _ _ _ _ _ [(15, (tB.is v1)), (1, (tapi_Cite.ptr c)), (14, ((tI .i64).is c.Kind))] []
    refine W.cond (.tmp rfl) (fun hc13 => ?_) (fun hc13 => ?_)
    ·have hp14 := hc13
     rw [if_pos hp14] at hm
     refine W.sr ?_
     refine WL.op rfl (.fieldAddr Try.underlying30 rfl (fun w => ⟨0, Try.sizeOf9 w⟩) fapi_Cite_2 (.tmp rfl)) ?_
     refine WL.op rfl (.load ty9 (.tmp rfl)) ?_
     refine WL.op rfl (.eqS (.tmp rfl) (.str rfl (by decide))) ?_
     refine WL.mv rfl rfl ?_
     rcases bcases (c.To == ([] : Str)) with hb15 | hb15
     ·have hp16 := hb15
      rw [if_pos hp16] at hm
      refine WL.run rfl rfl rfl rfl hb15 rfl rfl (Op1.fieldAddr Try.underlying30 rfl (fun w => ⟨0, Try.sizeOf28 w⟩) fapi_Cite_1 (.tmp rfl)) ?_
      refine WL.run rfl rfl rfl rfl hb15 rfl rfl (Op1.load ty28 (.tmp rfl)) ?_
      obtain ⟨plain, hv17, hm⟩ := bind_some hm
      refine WL.run rfl rfl rfl rfl hb15 rfl rfl (Op1.call Try.call49 (r20_plain_spec _ _ _ hv17) ⟨(.tmp rfl), trivial⟩) ?_
      refine WL.op rfl (.pickT (.tmp rfl) hb15 (.tmp rfl)) ?_
      refine WL.gv rfl rfl ?_
      refine WL.ns ?_
      cases hm
      exact W.ret1 () rfl (.tmp rfl) trivial
     ·have hp16 := ne_of_false hb15
      rw [if_neg hp16] at hm
      iterate 3 refine WL.pass rfl rfl rfl rfl hb15 rfl rfl ?_
      refine WL.op rfl (.pickF (.tmp rfl) hb15 .bool) ?_
      refine WL.gv rfl rfl ?_
      refine WL.ns ?_
      cases hm
      exact W.ret1 () rfl (.tmp rfl) trivial
    ·have hp14 := ne_of_false hc13
     rw [if_neg hp14] at hm
     refine W.sr ?_
     refine WL.op rfl (.eqI (.tmp rfl) .i64) ?_
     refine WL.gv rfl rfl ?_
     refine WL.ns ?_
     refine W.cond (.tmp rfl) (fun hc18 => ?_) (fun hc18 => ?_)
     ·have hp19 := of_decide_eq_true hc18
      rw [if_pos hp19] at hm
      refine W.seq ?_
      obtain ⟨may, hv20, hm⟩ := bind_some hm
      rcases bcases (may) with hb21 | hb21
      ·have hp22 := hb21
       rw [if_pos hp22] at hm
       obtain ⟨plain1, hv23, hm⟩ := bind_some hm
       rcases bcases (plain1) with hb24 | hb24
       ·have hp25 := hb24
        rw [if_pos hp25] at hm
        obtain ⟨plural, hv26, hm⟩ := bind_some hm
        obtain ⟨v2, hv27, hm⟩ := bind_some hm
        obtain ⟨v3, hv28, hm⟩ := bind_some hm
        obtain ⟨v4, hv29, hm⟩ := bind_some hm
        obtain ⟨v5, hv30, hm⟩ := bind_some hm
        refine W.draw [.c (tS.ptr c.To), .c (tS.is c.To), .c (tB.is may), .c (tB.is may), .c ((tL tapi_Step).ptr c.Path), .c ((tL tapi_Step).is c.Path), .c (tB.is plain1), .c (tB.is plain1), .c (tB.is plain1), .c ((tL tS).is plural), .c ((tL tapi_Step).ptr c.Path), .c ((tL tapi_Step).is c.Path), .c ((tL tapi_Step).ptr c.Path), .c ((tL tapi_Step).is c.Path), .c ((tI .i64).is (c.Path.length : Int)), .c ((tI .i64).is v2), .c (tapi_Step.ptr v3), .c ((tI .i64).ptr v3.Kind), .c ((tI .i64).is v3.Kind), .c ((tI .i64).is v4), .c (tS.ptr v5), .c (tS.is v5), .c (tB.is (v5 != ([] : Str))), .c (tB.is (v5 != ([] : Str))), .c (tB.is (v5 != ([] : Str)))] [([], [1]), ([0], []), ([1], []), ([2], []), ([3], [1]), ([3, 4], []), ([3, 5], []), ([3, 6], []), ([7], []), ([8], []), ([8], [1]), ([8, 10], []), ([8], [1]), ([8, 12], []), ([8, 13], []), ([8, 14], []), ([8, 11, 15], []), ([8, 16], []), ([8, 17], []), ([8, 18], []), ([8, 9, 19], []), ([8, 20], []), ([8, 21], []), ([8, 22], []), ([23], [])] Try.mixed rfl rfl rfl rfl (by exact ⟨.inr (Op1.fieldAddr Try.underlying30 rfl (fun w => ⟨0, Try.sizeOf9 w⟩) fapi_Cite_2 (.tmp rfl)), .inr (Op1.load ty9 (.tmp rfl)), .inr (Op1.call Try.call50 (r03_May_spec _ _ _ hv20) ⟨(.tmp rfl), trivial⟩), .inr (Op1.move (.tmp rfl)), .inr (dr rfl rfl rfl hb21 (Op1.fieldAddr Try.underlying30 rfl (fun w => ⟨0, Try.sizeOf28 w⟩) fapi_Cite_1 (.tmp rfl))), .inr (dr rfl rfl rfl hb21 (Op1.load ty28 (.tmp rfl))), .inr (dr rfl rfl rfl hb21 (Op1.call Try.call49 (r20_plain_spec _ _ _ hv23) ⟨(.tmp rfl), trivial⟩)), .inr (Op1.pickT (.tmp rfl) hb21 (.tmp rfl)), .inr (Op1.move (.tmp rfl)), .inr (dr rfl rfl rfl hb24 (Op1.call Try.call51 (r20_Plurals_spec _ hv26) trivial)), .inr (dr rfl rfl rfl hb24 (Op1.fieldAddr Try.underlying30 rfl (fun w => ⟨0, Try.sizeOf28 w⟩) fapi_Cite_1 (.tmp rfl))), .inr (dr rfl rfl rfl hb24 (Op1.load ty28 (.tmp rfl))), .inr (dr rfl rfl rfl hb24 (Op1.fieldAddr Try.underlying30 rfl (fun w => ⟨0, Try.sizeOf28 w⟩) fapi_Cite_1 (.tmp rfl))), .inr (dr rfl rfl rfl hb24 (Op1.load ty28 (.tmp rfl))), .inr (dr rfl rfl rfl hb24 (Op1.lenL Try.underlying28 (.tmp rfl))), .inr (dr rfl rfl rfl hb24 (Op1.subC hv27 (.tmp rfl) .i64)), .inr (dr rfl rfl rfl hb24 (Op1.idx hv28 Try.underlying28 Try.sizeOf55 (.tmp rfl) (.tmp rfl))), .inr (dr rfl rfl rfl hb24 (Op1.fieldAddr Try.underlying55 rfl (fun w => ⟨0, Try.sizeOf3 w⟩) fapi_Step_0 (.tmp rfl))), .inr (dr rfl rfl rfl hb24 (Op1.load ty3 (.tmp rfl))), .inr (dr rfl rfl rfl hb24 (Op1.subC hv29 (.tmp rfl) .i64)), .inr (dr rfl rfl rfl hb24 (Op1.idx hv30 Try.underlying77 Try.sizeOf9 (.tmp rfl) (.tmp rfl))), .inr (dr rfl rfl rfl hb24 (Op1.load ty9 (.tmp rfl))), .inr (dr rfl rfl rfl hb24 (Op1.neS (.tmp rfl) (.str rfl (by decide)))), .inr (Op1.pickT (.tmp rfl) hb24 (.tmp rfl)), .inr (Op1.assign (.tmp rfl)), trivial⟩) ?_
        refine WN.seq ?_
        cases hm
        exact W.ret1 () rfl (.tmp rfl) trivial
       ·have hp25 := ne_of_false hb24
        rw [if_neg hp25] at hm
        refine W.draw [.c (tS.ptr c.To), .c (tS.is c.To), .c (tB.is may), .c (tB.is may), .c ((tL tapi_Step).ptr c.Path), .c ((tL tapi_Step).is c.Path), .c (tB.is plain1), .c (tB.is plain1), .c (tB.is plain1), .c (Asn.eq undef), .c (Asn.eq undef), .c (Asn.eq undef), .c (Asn.eq undef), .c (Asn.eq undef), .c (Asn.eq undef), .c (Asn.eq undef), .c (Asn.eq undef), .c (Asn.eq undef), .c (Asn.eq undef), .c (Asn.eq undef), .c (Asn.eq undef), .c (Asn.eq undef), .c (Asn.eq undef), .c (tB.is false), .c (tB.is false)] [([], [1]), ([0], []), ([1], []), ([2], []), ([3], [1]), ([3, 4], []), ([3, 5], []), ([3, 6], []), ([7], []), ([8], []), ([8], [1]), ([8, 10], []), ([8], [1]), ([8, 12], []), ([8, 13], []), ([8, 14], []), ([8, 11, 15], []), ([8, 16], []), ([8, 17], []), ([8, 18], []), ([8, 9, 19], []), ([8, 20], []), ([8, 21], []), ([8, 22], []), ([23], [])] Try.mixed rfl rfl rfl rfl (by exact ⟨.inr (Op1.fieldAddr Try.underlying30 rfl (fun w => ⟨0, Try.sizeOf9 w⟩) fapi_Cite_2 (.tmp rfl)), .inr (Op1.load ty9 (.tmp rfl)), .inr (Op1.call Try.call50 (r03_May_spec _ _ _ hv20) ⟨(.tmp rfl), trivial⟩), .inr (Op1.move (.tmp rfl)), .inr (dr rfl rfl rfl hb21 (Op1.fieldAddr Try.underlying30 rfl (fun w => ⟨0, Try.sizeOf28 w⟩) fapi_Cite_1 (.tmp rfl))), .inr (dr rfl rfl rfl hb21 (Op1.load ty28 (.tmp rfl))), .inr (dr rfl rfl rfl hb21 (Op1.call Try.call49 (r20_plain_spec _ _ _ hv23) ⟨(.tmp rfl), trivial⟩)), .inr (Op1.pickT (.tmp rfl) hb21 (.tmp rfl)), .inr (Op1.move (.tmp rfl)), .inr (dp rfl rfl rfl hb24), .inr (dp rfl rfl rfl hb24), .inr (dp rfl rfl rfl hb24), .inr (dp rfl rfl rfl hb24), .inr (dp rfl rfl rfl hb24), .inr (dp rfl rfl rfl hb24), .inr (dp rfl rfl rfl hb24), .inr (dp rfl rfl rfl hb24), .inr (dp rfl rfl rfl hb24), .inr (dp rfl rfl rfl hb24), .inr (dp rfl rfl rfl hb24), .inr (dp rfl rfl rfl hb24), .inr (dp rfl rfl rfl hb24), .inr (dp rfl rfl rfl hb24), .inr (Op1.pickF (.tmp rfl) hb24 .bool), .inr (Op1.assign (.tmp rfl)), trivial⟩) ?_
        refine WN.seq ?_
        cases hm
        exact W.ret1 () rfl (.tmp rfl) trivial
      ·have hp22 := ne_of_false hb21
       rw [if_neg hp22] at hm
       refine W.draw [.c (tS.ptr c.To), .c (tS.is c.To), .c (tB.is may), .c (tB.is may), .c (Asn.eq undef), .c (Asn.eq undef), .c (Asn.eq undef), .c (tB.is false), .c (tB.is false), .c (Asn.eq undef), .c (Asn.eq undef), .c (Asn.eq undef), .c (Asn.eq undef), .c (Asn.eq undef), .c (Asn.eq undef), .c (Asn.eq undef), .c (Asn.eq undef), .c (Asn.eq undef), .c (Asn.eq undef), .c (Asn.eq undef), .c (Asn.eq undef), .c (Asn.eq undef), .c (Asn.eq undef), .c (tB.is false), .c (tB.is false)] [([], [1]), ([0], []), ([1], []), ([2], []), ([3], [1]), ([3, 4], []), ([3, 5], []), ([3, 6], []), ([7], []), ([8], []), ([8], [1]), ([8, 10], []), ([8], [1]), ([8, 12], []), ([8, 13], []), ([8, 14], []), ([8, 11, 15], []), ([8, 16], []), ([8, 17], []), ([8, 18], []), ([8, 9, 19], []), ([8, 20], []), ([8, 21], []), ([8, 22], []), ([23], [])] Try.mixed rfl rfl rfl rfl (by exact ⟨.inr (Op1.fieldAddr Try.underlying30 rfl (fun w => ⟨0, Try.sizeOf9 w⟩) fapi_Cite_2 (.tmp rfl)), .inr (Op1.load ty9 (.tmp rfl)), .inr (Op1.call Try.call50 (r03_May_spec _ _ _ hv20) ⟨(.tmp rfl), trivial⟩), .inr (Op1.move (.tmp rfl)), .inr (dp rfl rfl rfl hb21), .inr (dp rfl rfl rfl hb21), .inr (dp rfl rfl rfl hb21), .inr (Op1.pickF (.tmp rfl) hb21 .bool), .inr (Op1.move (.tmp rfl)), .inr (dp rfl rfl rfl rfl), .inr (dp rfl rfl rfl rfl), .inr (dp rfl rfl rfl rfl), .inr (dp rfl rfl rfl rfl), .inr (dp rfl rfl rfl rfl), .inr (dp rfl rfl rfl rfl), .inr (dp rfl rfl rfl rfl), .inr (dp rfl rfl rfl rfl), .inr (dp rfl rfl rfl rfl), .inr (dp rfl rfl rfl rfl), .inr (dp rfl rfl rfl rfl), .inr (dp rfl rfl rfl rfl), .inr (dp rfl rfl rfl rfl), .inr (dp rfl rfl rfl rfl), .inr (Op1.pickF (.tmp rfl) rfl .bool), .inr (Op1.assign (.tmp rfl)), trivial⟩) ?_
       refine WN.seq ?_
       cases hm
       exact W.ret1 () rfl (.tmp rfl) trivial
     ·have hp19 := of_decide_eq_false hc18
      rw [if_neg hp19] at hm
      obtain ⟨s31, hs32, hk33⟩ := bind_some hm
      clear hm
      refine W.join (fun s : Bool => s = s31) (fun s => [(52, (tB.is s)), (1, (tapi_Cite.ptr c))]) (fun s => []) ?_ ?_
      ·rintro v6 hj51
       try dsimp only at hj51
       subst hj51
       have hm := hk33
       clear hk33
       try dsimp only at hm
       change W _ _ _ _ _ _ _ [(52, (tB.is v6)), (1, (tapi_Cite.ptr c))] []
       refine W.cond (.tmp rfl) (fun hc36 => ?_) (fun hc36 => ?_)
       ·have hp37 := hc36
        rw [if_pos hp37] at hm
        refine W.sr ?_
        refine WL.op rfl (.fieldAddr Try.underlying30 rfl (fun w => ⟨0, Try.sizeOf9 w⟩) fapi_Cite_2 (.tmp rfl)) ?_
        refine WL.op rfl (.load ty9 (.tmp rfl)) ?_
        refine WL.op rfl (.eqS (.tmp rfl) (.str rfl (by decide))) ?_
        refine WL.mv rfl rfl ?_
        rcases bcases (c.To == ([] : Str)) with hb38 | hb38
        ·have hp39 := hb38
         rw [if_pos hp39] at hm
         refine WL.run rfl rfl rfl rfl hb38 rfl rfl (Op1.fieldAddr Try.underlying30 rfl (fun w => ⟨0, Try.sizeOf28 w⟩) fapi_Cite_1 (.tmp rfl)) ?_
         refine WL.run rfl rfl rfl rfl hb38 rfl rfl (Op1.load ty28 (.tmp rfl)) ?_
         obtain ⟨v7, hv40, hm⟩ := bind_some hm
         refine WL.run rfl rfl rfl rfl hb38 rfl rfl (Op1.idx hv40 Try.underlying28 Try.sizeOf55 (.tmp rfl) .i64) ?_
         refine WL.run rfl rfl rfl rfl hb38 rfl rfl (Op1.fieldAddr Try.underlying55 rfl (fun w => ⟨0, Try.sizeOf3 w⟩) fapi_Step_0 (.tmp rfl)) ?_
         refine WL.run rfl rfl rfl rfl hb38 rfl rfl (Op1.load ty3 (.tmp rfl)) ?_
         refine WL.run rfl rfl rfl rfl hb38 rfl rfl (Op1.geI (.tmp rfl) .i64) ?_
         refine WL.op rfl (.pickT (.tmp rfl) hb38 (.tmp rfl)) ?_
         refine WL.mv rfl rfl ?_
         rcases bcases (decide ((1 : Int) ≤ v7.Kind)) with hb41 | hb41
         ·have hp42 := of_decide_eq_true hb41
          rw [if_pos hp42] at hm
          refine WL.run rfl rfl rfl rfl hb41 rfl rfl (Op1.fieldAddr Try.underlying30 rfl (fun w => ⟨0, Try.sizeOf28 w⟩) fapi_Cite_1 (.tmp rfl)) ?_
          refine WL.run rfl rfl rfl rfl hb41 rfl rfl (Op1.load ty28 (.tmp rfl)) ?_
          obtain ⟨v8, hv43, hm⟩ := bind_some hm
          refine WL.run rfl rfl rfl rfl hb41 rfl rfl (Op1.idx hv43 Try.underlying28 Try.sizeOf55 (.tmp rfl) .i64) ?_
          refine WL.run rfl rfl rfl rfl hb41 rfl rfl (Op1.fieldAddr Try.underlying55 rfl (fun w => ⟨0, Try.sizeOf3 w⟩) fapi_Step_0 (.tmp rfl)) ?_
          refine WL.run rfl rfl rfl rfl hb41 rfl rfl (Op1.load ty3 (.tmp rfl)) ?_
          refine WL.run rfl rfl rfl rfl hb41 rfl rfl (Op1.leI (.tmp rfl) .i64) ?_
          refine WL.op rfl (.pickT (.tmp rfl) hb41 (.tmp rfl)) ?_
          refine WL.mv rfl rfl ?_
          rcases bcases (decide (v8.Kind ≤ (7 : Int))) with hb44 | hb44
          ·have hp45 := of_decide_eq_true hb44
           rw [if_pos hp45] at hm
           refine WL.run rfl rfl rfl rfl hb44 rfl rfl (Op1.fieldAddr Try.underlying30 rfl (fun w => ⟨0, Try.sizeOf28 w⟩) fapi_Cite_1 (.tmp rfl)) ?_
           refine WL.run rfl rfl rfl rfl hb44 rfl rfl (Op1.load ty28 (.tmp rfl)) ?_
           obtain ⟨v9, hv46, hm⟩ := bind_some hm
           refine WL.run rfl rfl rfl rfl hb44 rfl rfl (Op1.idx hv46 Try.underlying28 Try.sizeOf55 (.tmp rfl) .i64) ?_
           refine WL.run rfl rfl rfl rfl hb44 rfl rfl (Op1.fieldAddr Try.underlying55 rfl (fun w => ⟨0, Try.sizeOf9 w⟩) fapi_Step_1 (.tmp rfl)) ?_
           refine WL.run rfl rfl rfl rfl hb44 rfl rfl (Op1.load ty9 (.tmp rfl)) ?_
           refine WL.run rfl rfl rfl rfl hb44 rfl rfl (Op1.eqS (.tmp rfl) (.str rfl (by decide))) ?_
           refine WL.op rfl (.pickT (.tmp rfl) hb44 (.tmp rfl)) ?_
           refine WL.mv rfl rfl ?_
           rcases bcases (v9.Label == ([] : Str)) with hb47 | hb47
           ·have hp48 := hb47
            rw [if_pos hp48] at hm
            refine WL.run rfl rfl rfl rfl hb47 rfl rfl (Op1.fieldAddr Try.underlying30 rfl (fun w => ⟨0, Try.sizeOf28 w⟩) fapi_Cite_1 (.tmp rfl)) ?_
            refine WL.run rfl rfl rfl rfl hb47 rfl rfl (Op1.load ty28 (.tmp rfl)) ?_
            obtain ⟨v10, hv49, hm⟩ := bind_some hm
            refine WL.run rfl rfl rfl rfl hb47 rfl rfl (Op1.slcLo hv49 Try.underlying28 Try.sizeOf55 (.tmp rfl) .i64) ?_
            obtain ⟨steps, hv50, hm⟩ := bind_some hm
            refine WL.run rfl rfl rfl rfl hb47 rfl rfl (Op1.call Try.call52 (r20_steps_spec _ _ _ hv50) ⟨(.tmp rfl), trivial⟩) ?_
            refine WL.op rfl (.pickT (.tmp rfl) hb47 (.tmp rfl)) ?_
            refine WL.gv rfl rfl ?_
            refine WL.ns ?_
            cases hm
            exact W.ret1 () rfl (.tmp rfl) trivial
           ·have hp48 := ne_of_false hb47
            rw [if_neg hp48] at hm
            iterate 4 refine WL.pass rfl rfl rfl rfl hb47 rfl rfl ?_
            refine WL.op rfl (.pickF (.tmp rfl) hb47 .bool) ?_
            refine WL.gv rfl rfl ?_
            refine WL.ns ?_
            cases hm
            exact W.ret1 () rfl (.tmp rfl) trivial
          ·have hp45 := of_decide_eq_false hb44
           rw [if_neg hp45] at hm
           iterate 6 refine WL.pass rfl rfl rfl rfl hb44 rfl rfl ?_
           refine WL.op rfl (.pickF (.tmp rfl) hb44 .bool) ?_
           refine WL.mv rfl rfl ?_
           iterate 4 refine WL.pass rfl rfl rfl rfl rfl rfl rfl ?_
           refine WL.op rfl (.pickF (.tmp rfl) rfl .bool) ?_
           refine WL.gv rfl rfl ?_
           refine WL.ns ?_
           cases hm
           exact W.ret1 () rfl (.tmp rfl) trivial
         ·have hp42 := of_decide_eq_false hb41
          rw [if_neg hp42] at hm
          iterate 6 refine WL.pass rfl rfl rfl rfl hb41 rfl rfl ?_
          refine WL.op rfl (.pickF (.tmp rfl) hb41 .bool) ?_
          refine WL.mv rfl rfl ?_
          iterate 6 refine WL.pass rfl rfl rfl rfl rfl rfl rfl ?_
          refine WL.op rfl (.pickF (.tmp rfl) rfl .bool) ?_
          refine WL.mv rfl rfl ?_
          iterate 4 refine WL.pass rfl rfl rfl rfl rfl rfl rfl ?_
          refine WL.op rfl (.pickF (.tmp rfl) rfl .bool) ?_
          refine WL.gv rfl rfl ?_
          refine WL.ns ?_
          cases hm
          exact W.ret1 () rfl (.tmp rfl) trivial
        ·have hp39 := ne_of_false hb38
         rw [if_neg hp39] at hm
         iterate 6 refine WL.pass rfl rfl rfl rfl hb38 rfl rfl ?_
         refine WL.op rfl (.pickF (.tmp rfl) hb38 .bool) ?_
         refine WL.mv rfl rfl ?_
         iterate 6 refine WL.pass rfl rfl rfl rfl rfl rfl rfl ?_
         refine WL.op rfl (.pickF (.tmp rfl) rfl .bool) ?_
         refine WL.mv rfl rfl ?_
         iterate 6 refine WL.pass rfl rfl rfl rfl rfl rfl rfl ?_
         refine WL.op rfl (.pickF (.tmp rfl) rfl .bool) ?_
         refine WL.mv rfl rfl ?_
         iterate 4 refine WL.pass rfl rfl rfl rfl rfl rfl rfl ?_
         refine WL.op rfl (.pickF (.tmp rfl) rfl .bool) ?_
         refine WL.gv rfl rfl ?_
         refine WL.ns ?_
         cases hm
         exact W.ret1 () rfl (.tmp rfl) trivial
       ·have hp37 := ne_of_false hc36
        rw [if_neg hp37] at hm
        refine W.skip ?_
        refine WN.block ?_
        refine WN.seq ?_
        refine W.sr ?_
        refine WL.op rfl (.assign .bool) ?_
        refine WL.ns ?_
        cases hm
        exact W.ret1 () rfl (.tmp rfl) trivial
      ·have hm := hs32
       clear hs32
       refine W.sr ?_
       refine WL.op rfl (.eqI (.tmp rfl) .i64) ?_
       refine WL.gv rfl rfl ?_
       refine WL.ns ?_
       refine W.cond (.tmp rfl) (fun hc34 => ?_) (fun hc34 => ?_)
       ·have hp35 := of_decide_eq_true hc34
        rw [if_pos hp35] at hm
        refine W.skip ?_
        exact WN.meet (decide (c.Kind = (2 : Int))) (Option.some.inj hm) ⟨Ent.q rfl, Ent.q rfl, trivial⟩ trivial
       ·have hp35 := of_decide_eq_false hc34
        rw [if_neg hp35] at hm
        refine W.region ?_
        refine WL.op rfl (.eqI (.tmp rfl) .i64) ?_
        refine WL.gv rfl rfl ?_
        refine WL.nil ?_
        exact WN.meet (decide (c.Kind = (3 : Int))) (Option.some.inj hm) ⟨Ent.q rfl, Ent.q rfl, trivial⟩ trivial
   ·have hm := hs9
    clear hs9
    refine W.sr ?_
    refine WL.op rfl (.eqI (.tmp rfl) .i64) ?_
    refine WL.gv rfl rfl ?_
    refine WL.ns ?_
    refine W.cond (.tmp rfl) (fun hc11 => ?_) (fun hc11 => ?_)
    ·have hp12 := of_decide_eq_true hc11
     rw [if_pos hp12] at hm
     refine W.skip ?_
     exact WN.meet (decide (c.Kind = (0 : Int))) (Option.some.inj hm) ⟨Ent.q rfl, Ent.q rfl, Ent.q rfl, trivial⟩ trivial
    ·have hp12 := of_decide_eq_false hc11
     rw [if_neg hp12] at hm
     refine W.region ?_
     refine WL.op rfl (.eqI (.tmp rfl) .i64) ?_
     refine WL.gv rfl rfl ?_
     refine WL.nil ?_
     exact WN.meet (decide (c.Kind = (4 : Int))) (Option.some.inj hm) ⟨Ent.q rfl, Ent.q rfl, Ent.q rfl, trivial⟩ trivial
 ·have hm := hs2
  clear hs2
  refine W.region ?_
  refine WL.op rfl (.fieldAddr Try.underlying30 rfl (fun w => ⟨0, Try.sizeOf28 w⟩) fapi_Cite_1 (.tmp rfl)) ?_
  refine WL.op rfl (.load ty28 (.tmp rfl)) ?_
  refine WL.op rfl (.lenL Try.underlying28 (.tmp rfl)) ?_
  refine WL.op rfl (.gtI (.tmp rfl) .i64) ?_
  refine WL.mv rfl rfl ?_
  rcases bcases (decide ((9 : Int) < (c.Path.length : Int))) with hb4 | hb4
  ·have hp5 := of_decide_eq_true hb4
   rw [if_pos hp5] at hm
   iterate 4 refine WL.pass rfl rfl rfl rfl hb4 rfl rfl ?_
   refine WL.op rfl (.pickT (.tmp rfl) hb4 .bool) ?_
   refine WL.nil ?_
   exact WN.meet true (Option.some.inj hm) ⟨Ent.q rfl, Ent.q rfl, trivial⟩ trivial
  ·have hp5 := of_decide_eq_false hb4
   rw [if_neg hp5] at hm
   refine WL.run rfl rfl rfl rfl hb4 rfl rfl (Op1.fieldAddr Try.underlying30 rfl (fun w => ⟨0, Try.sizeOf28 w⟩) fapi_Cite_1 (.tmp rfl)) ?_
   refine WL.run rfl rfl rfl rfl hb4 rfl rfl (Op1.load ty28 (.tmp rfl)) ?_
   refine WL.run rfl rfl rfl rfl hb4 rfl rfl (Op1.lenL Try.underlying28 (.tmp rfl)) ?_
   refine WL.run rfl rfl rfl rfl hb4 rfl rfl (Op1.eqI (.tmp rfl) .i64) ?_
   refine WL.op rfl (.pickF (.tmp rfl) hb4 (.tmp rfl)) ?_
   refine WL.nil ?_
   exact WN.meet (decide ((c.Path.length : Int) = (0 : Int))) (Option.some.inj hm) ⟨Ent.q rfl, Ent.q rfl, trivial⟩ trivial

theorem r23_Get_spec : ∀ (n : Nat) (u : api_Unit) (id : api_Id) (r : api_Unit × Int), M.r23_Get n u id = some r → FSpec Try.prog 28 [(tapi_Unit.is u), (tapi_Id.is id)] (Asn.tuple2 (tapi_Unit.is r.1) ((tI .i64).is r.2)) := by
 intro n
 induction n with
 | zero => intro u id r hm; cases hm
 | succ n ih =>
  intro u id r hm
  rw [M.r23_Get.eq_2] at hm
  refine FSpec.of Try.func28 rfl rfl rfl (fun g0 => ?_)
  refine W.sr ?_
  refine WL.op rfl (.box (.tmp rfl)) ?_
  refine WL.op rfl (.box (.tmp rfl)) ?_
  refine WL.opR rfl (OpR.alloc 4 ze27) (fun b => ?_)
  refine WL.op rfl (.assign .i64) ?_
  refine WL.ns ?_
  refine W.seq ?_
  refine W.sr ?_
  refine WL.op rfl (.fieldAddr Try.underlying27 rfl (fun w => ⟨2, Try.sizeOf23 w⟩) fapi_Unit_0 (.tmp rfl)) ?_
  refine WL.op rfl (.load ty23 (.tmp rfl)) ?_
  refine WL.op rfl (.load ty23 (.tmp rfl)) ?_
  refine WL.op rfl (.eqSt (D := 2) rfl (by decide) eg23 eq23 (.tmp rfl) (.tmp rfl)) ?_
  refine WL.ns ?_
  refine W.cond (.tmp rfl) (fun hc1 => ?_) (fun hc1 => ?_)
  ·have hp2 := of_decide_eq_true hc1
   rw [if_pos hp2] at hm
   refine W.sr ?_
   refine WL.op rfl (.load ty27 (.tmp rfl)) ?_
   refine WL.opU (OpR.storeB (b := b) 4 Try.sizeOf27 (Cellable.is tapi_Unit u) rfl (.tmp rfl) (.tmp rfl)) (fun _ => ?_)
   refine WL.op rfl (.assign .i64) ?_
   refine WL.ns ?_
   cases hm
   exact W.retQ2 () rfl rfl (ResAt.cell 4 Try.isAgg27 Try.sizeOf27 rfl (.tmp rfl)) (ResAt.tmp (.tmp rfl)) trivial
  ·have hp2 := of_decide_eq_false hc1
   rw [if_neg hp2] at hm
   refine W.skip ?_
   refine WN.seq ?_
   refine W.seq ?_
   refine W.sr ?_
   refine WL.op rfl (.assign .i64) ?_
   refine WL.ns ?_
   refine W.block ?_
   obtain ⟨s3, hs4, hk5⟩ := bind_some hm
   clear hm
   refine W.loop (fun m (s : Int × api_Unit) => M.r23_Get_loop1 u id (M.r23_Get n) m s.1 s.2 = some s3) (fun s => [(6, ((tI .i64).is s.1)), (2, (tapi_Unit.ptr u)), (3, (tapi_Id.ptr id)), (4, (Bp b 0))]) (fun s => [(4, (Bx 8 true 27 (tapi_Unit.is s.2) b))]) _ ((0 : Int), zapi_Unit) hs4 ⟨Ent.q rfl, Ent.q rfl, Ent.q rfl, Ent.q rfl, trivial⟩ ⟨rfl, rfl, trivial⟩ ?_
   rintro n6 ⟨i, v⟩ hm
   try dsimp only at hm
   change W _ _ _ _ _ _ _ [(6, ((tI .i64).is i)), (2, (tapi_Unit.ptr u)), (3, (tapi_Id.ptr id)), (4, (Bp b 0))] [(4, (Bx 8 true 27 (tapi_Unit.is v) b))]
   cases n6 with
   | zero => rw [M.r23_Get_loop1.eq_1] at hm; cases hm
   | succ n6 =>
    rw [M.r23_Get_loop1.eq_2] at hm
    refine W.seq ?_
    refine W.sr ?_
    refine WL.mv rfl rfl ?_
    refine WL.op rfl (.fieldAddr Try.underlying27 rfl (fun w => ⟨0, Try.sizeOf25 w⟩) fapi_Unit_5 (.tmp rfl)) ?_
    refine WL.op rfl (.load ty25 (.tmp rfl)) ?_
    refine WL.op rfl (.lenL Try.underlying25 (.tmp rfl)) ?_
    refine WL.op rfl (.ltI (.tmp rfl) (.tmp rfl)) ?_
    refine WL.ns ?_
    refine W.cond (.tmp rfl) (fun hc7 => ?_) (fun hc7 => ?_)
    ·have hp8 := of_decide_eq_true hc7
     rw [if_pos hp8] at hm
     refine W.skip ?_
     refine WN.seq ?_
     refine W.seq ?_
     refine W.block ?_
     refine W.seq ?_
     obtain ⟨v1, hv9, hm⟩ := bind_some hm
     obtain ⟨get, hv10, hm⟩ := bind_some hm
     refine W.weakR (res' := [(4, (Bx 8 true 27 (tapi_Unit.is v) b))]) ⟨rfl, rfl, trivial⟩ ?_
     refine W.drawM [.c ((tL tapi_Unit).ptr u.Kids), .c ((tL tapi_Unit).is u.Kids), .c ((tI .i64).is i), .c (tapi_Unit.ptr v1), .c (tapi_Unit.is v1), .c (tapi_Id.is id), .c (Asn.tuple2 (tapi_Unit.is get.1) ((tI .i64).is get.2)), .c (Asn.tuple2 (tapi_Unit.is get.1) ((tI .i64).is get.2)), .c (tapi_Unit.is get.1), .c ((tI .i64).is get.2), .f (fun cv => (Bp (bk (cv 0)) 0)), .c Asn.any, .c ((tI .i64).is get.2)] [([], [2]), ([0], []), ([], [6]), ([1, 2], []), ([3], []), ([], [3]), ([4, 5], []), ([6], []), ([7], []), ([7], []), ([], []), ([8, 10], []), ([9], [])] [10, 11] [[], [], [], [], [], [], [], [], [], [], [true], [], []] (fun m cv => match m with | 0 => [(4, (Bx 8 true 27 (tapi_Unit.is v) b))] | 1 => [(7, (Bx 8 true 27 (tapi_Unit.is zapi_Unit) (bk (cv 0)))), (4, (Bx 8 true 27 (tapi_Unit.is v) b))] | _ => [(7, (Bx 8 true 27 (tapi_Unit.is get.1) (bk (cv 0)))), (4, (Bx 8 true 27 (tapi_Unit.is v) b))]) (fun _ => none) Try.mixed rfl rfl rfl rfl rfl ⟨fun _ _ _ _ => rfl, ⟨fun _ _ _ _ => rfl, ⟨fun _ _ _ _ => rfl, ⟨fun _ _ _ _ => rfl, ⟨fun _ _ _ _ => rfl, ⟨fun _ _ _ _ => rfl, ⟨fun _ _ _ _ => rfl, ⟨fun _ _ _ _ => rfl, ⟨fun _ _ _ _ => rfl, ⟨fun _ _ _ _ => rfl, ⟨fun m hm c t => by simp only [DA.at, upd_dep (r := [true]) (j := 0) rfl hm], ⟨fun _ _ _ _ => rfl, ⟨fun _ _ _ _ => rfl, trivial⟩⟩⟩⟩⟩⟩⟩⟩⟩⟩⟩⟩⟩ rfl ⟨mo fun cv => Op1.fieldAddr Try.underlying27 rfl (fun w => ⟨0, Try.sizeOf25 w⟩) fapi_Unit_5 (.tmp rfl), ⟨mo fun cv => Op1.load ty25 (.tmp rfl), ⟨mo fun cv => Op1.move (.tmp rfl), ⟨mo fun cv => Op1.idx hv9 Try.underlying25 Try.sizeOf27 (.tmp rfl) (.tmp rfl), ⟨mo fun cv => Op1.load ty27 (.tmp rfl), ⟨mo fun cv => Op1.load ty23 (.tmp rfl), ⟨mo fun cv => Op1.call Try.call28 (ih _ _ _ hv10) ⟨(.tmp rfl), (.tmp rfl), trivial⟩, ⟨mo fun cv => Op1.move (.tmp rfl), ⟨mo fun cv => Op1.extract0 (.tmp rfl), ⟨mo fun cv => Op1.extract1 (.tmp rfl), ⟨.inl rfl, ⟨.inl rfl, ⟨mo fun cv => Op1.assign (.tmp rfl), trivial⟩⟩⟩⟩⟩⟩⟩⟩⟩⟩⟩⟩⟩ ⟨⟨_, _, _, [], (fun cv => [(7, (Bx 8 true 27 (tapi_Unit.is zapi_Unit) (bk (cv 0))))]), rfl, rfl, rfl, rfl, fun _ => rfl, fun _ _ => rfl, fun cv => OpR.viaB (OpR.alloc 7 ze27)⟩, ⟨⟨_, _, _, [7], (fun cv => [(7, (Bx 8 true 27 (tapi_Unit.is get.1) (bk (cv 0))))]), rfl, rfl, rfl, rfl, fun _ => rfl, fun _ _ => rfl, fun cv => OpR.viaU (OpR.storeB (b := (bk (cv 0))) 7 Try.sizeOf27 (Cellable.is tapi_Unit get.1) rfl (.tmp rfl) (.tmp rfl))⟩, trivial⟩⟩ (fun cv => ?_)
     refine WN.seq ?_
     refine W.sr ?_
     refine WL.mv rfl rfl ?_
     refine WL.op rfl (.geI (.tmp rfl) .i64) ?_
     refine WL.ns ?_
     refine W.cond (.tmp rfl) (fun hc11 => ?_) (fun hc11 => ?_)
     ·have hp12 := of_decide_eq_true hc11
      rw [if_pos hp12] at hm
      refine W.sr ?_
      refine WL.op rfl (.loadB 7 Try.isAgg27 Try.sizeOf27 rfl (.tmp rfl)) ?_
      refine WL.mv rfl rfl ?_
      obtain ⟨v2, hv13, hm⟩ := bind_some hm
      refine WL.op rfl (.addC hv13 (.tmp rfl) .i64) ?_
      refine WL.opU (OpR.storeB (b := b) 4 Try.sizeOf27 (Cellable.is tapi_Unit get.1) rfl (.tmp rfl) (.tmp rfl)) (fun _ => ?_)
      refine WL.gv rfl rfl ?_
      refine WL.ns ?_
      have hr14 := Option.some.inj hm
      clear hm
      subst hr14
      have hm := hk5
      try dsimp only at hm
      cases hm
      exact W.retQ2 () rfl rfl (ResAt.cell 4 Try.isAgg27 Try.sizeOf27 rfl (.tmp rfl)) (ResAt.tmp (.tmp rfl)) trivial
     ·have hp12 := of_decide_eq_false hc11
      rw [if_neg hp12] at hm
      refine W.skip ?_
      refine WN.block ?_
      refine WN.seq ?_
      refine W.region ?_
      refine WL.mv rfl rfl ?_
      refine WL.lenL (s := 16) (.tmp rfl) fun hl15 => ?_
      refine WL.op rfl (.addI1 (.tmp rfl) .i64 hp8 hl15) ?_
      refine WL.gv rfl rfl ?_
      refine WL.nil ?_
      exact WN.again n6 (i + 1, v) (Nat.lt_succ_self n6) hm ⟨Ent.q rfl, Ent.q rfl, Ent.q rfl, Ent.q rfl, trivial⟩ ⟨rfl, rfl, trivial⟩
    ·have hp8 := of_decide_eq_false hc7
     rw [if_neg hp8] at hm
     refine W.exit rfl ?_
     have hr16 := Option.some.inj hm
     clear hm
     subst hr16
     have hm := hk5
     try dsimp only at hm
     refine WN.seq ?_
     refine W.sr ?_
     refine WL.op rfl (.build (s := tapi_Unit) (x := (⟨zapi_Id, (0 : Int), ([] : Str), ([] : List api_Word), ([] : List api_Word), ([] : List api_Unit)⟩ : api_Unit)) zapi_Unit_f rfl Try.underlying27 (zapi_Unit_sz _ Try.underlying27) ze27 rfl) ?_
     refine WL.opU (OpR.storeB (b := b) 4 Try.sizeOf27 (Cellable.is tapi_Unit (⟨zapi_Id, (0 : Int), ([] : Str), ([] : List api_Word), ([] : List api_Word), ([] : List api_Unit)⟩ : api_Unit)) rfl (.tmp rfl) (.tmp rfl)) (fun _ => ?_)
     refine WL.op rfl (.assign .i64) ?_
     refine WL.ns ?_
     cases hm
     exact W.retQ2 () rfl rfl (ResAt.cell 4 Try.isAgg27 Try.sizeOf27 rfl (.tmp rfl)) (ResAt.tmp (.tmp rfl)) trivial

theorem r06_Find_spec : ∀ (n : Nat) (u : api_Unit) (id : api_Id) (r : api_Unit × Bool), M.r06_Find n u id = some r → FSpec Try.prog 20 [(tapi_Unit.is u), (tapi_Id.is id)] (Asn.tuple2 (tapi_Unit.is r.1) (tB.is r.2)) := by
 intro n
 induction n with
 | zero => intro u id r hm; cases hm
 | succ n ih =>
  intro u id r hm
  rw [M.r06_Find.eq_2] at hm
  refine FSpec.of Try.func20 rfl rfl rfl (fun g0 => ?_)
  refine W.sr ?_
  refine WL.op rfl (.box (.tmp rfl)) ?_
  refine WL.op rfl (.box (.tmp rfl)) ?_
  refine WL.opR rfl (OpR.alloc 4 ze27) (fun b => ?_)
  refine WL.op rfl (.assign .bool) ?_
  refine WL.ns ?_
  refine W.seq ?_
  refine W.sr ?_
  refine WL.op rfl (.fieldAddr Try.underlying27 rfl (fun w => ⟨2, Try.sizeOf23 w⟩) fapi_Unit_0 (.tmp rfl)) ?_
  refine WL.op rfl (.load ty23 (.tmp rfl)) ?_
  refine WL.op rfl (.load ty23 (.tmp rfl)) ?_
  refine WL.op rfl (.eqSt (D := 2) rfl (by decide) eg23 eq23 (.tmp rfl) (.tmp rfl)) ?_
  refine WL.ns ?_
  refine W.cond (.tmp rfl) (fun hc1 => ?_) (fun hc1 => ?_)
  ·have hp2 := of_decide_eq_true hc1
   rw [if_pos hp2] at hm
   refine W.sr ?_
   refine WL.op rfl (.load ty27 (.tmp rfl)) ?_
   refine WL.opU (OpR.storeB (b := b) 4 Try.sizeOf27 (Cellable.is tapi_Unit u) rfl (.tmp rfl) (.tmp rfl)) (fun _ => ?_)
   refine WL.op rfl (.assign .bool) ?_
   refine WL.ns ?_
   cases hm
   exact W.retQ2 () rfl rfl (ResAt.cell 4 Try.isAgg27 Try.sizeOf27 rfl (.tmp rfl)) (ResAt.tmp (.tmp rfl)) trivial
  ·have hp2 := of_decide_eq_false hc1
   rw [if_neg hp2] at hm
   refine W.skip ?_
   refine WN.seq ?_
   refine W.seq ?_
   refine W.sr ?_
   refine WL.op rfl (.assign .i64) ?_
   refine WL.ns ?_
   refine W.block ?_
   obtain ⟨s3, hs4, hk5⟩ := bind_some hm
   clear hm
   refine W.loop (fun m (s : Int × api_Unit) => M.r06_Find_loop1 u id (M.r06_Find n) m s.1 s.2 = some s3) (fun s => [(6, ((tI .i64).is s.1)), (2, (tapi_Unit.ptr u)), (3, (tapi_Id.ptr id)), (4, (Bp b 0))]) (fun s => [(4, (Bx 8 true 27 (tapi_Unit.is s.2) b))]) _ ((0 : Int), zapi_Unit) hs4 ⟨Ent.q rfl, Ent.q rfl, Ent.q rfl, Ent.q rfl, trivial⟩ ⟨rfl, rfl, trivial⟩ ?_
   rintro n6 ⟨i, v⟩ hm
   try dsimp only at hm
   change W _ _ _ _ _ _ _ [(6, ((tI .i64).is i)), (2, (tapi_Unit.ptr u)), (3, (tapi_Id.ptr id)), (4, (Bp b 0))] [(4, (Bx 8 true 27 (tapi_Unit.is v) b))]
   cases n6 with
   | zero => rw [M.r06_Find_loop1.eq_1] at hm; cases hm
   | succ n6 =>
    rw [M.r06_Find_loop1.eq_2] at hm
    refine W.seq ?_
    refine W.sr ?_
    refine WL.mv rfl rfl ?_
    refine WL.op rfl (.fieldAddr Try.underlying27 rfl (fun w => ⟨0, Try.sizeOf25 w⟩) fapi_Unit_5 (.tmp rfl)) ?_
    refine WL.op rfl (.load ty25 (.tmp rfl)) ?_
    refine WL.op rfl (.lenL Try.underlying25 (.tmp rfl)) ?_
    refine WL.op rfl (.ltI (.tmp rfl) (.tmp rfl)) ?_
    refine WL.ns ?_
    refine W.cond (.tmp rfl) (fun hc7 => ?_) (fun hc7 => ?_)
    ·have hp8 := of_decide_eq_true hc7
     rw [if_pos hp8] at hm
     refine W.skip ?_
     refine WN.seq ?_
     refine W.seq ?_
     refine W.block ?_
     refine W.seq ?_
     obtain ⟨v1, hv9, hm⟩ := bind_some hm
     obtain ⟨find, hv10, hm⟩ := bind_some hm
     refine W.weakR (res' := [(4, (Bx 8 true 27 (tapi_Unit.is v) b))]) ⟨rfl, rfl, trivial⟩ ?_
     refine W.drawM [.c ((tL tapi_Unit).ptr u.Kids), .c ((tL tapi_Unit).is u.Kids), .c ((tI .i64).is i), .c (tapi_Unit.ptr v1), .c (tapi_Unit.is v1), .c (tapi_Id.is id), .c (Asn.tuple2 (tapi_Unit.is find.1) (tB.is find.2)), .c (Asn.tuple2 (tapi_Unit.is find.1) (tB.is find.2)), .c (tapi_Unit.is find.1), .c (tB.is find.2), .f (fun cv => (Bp (bk (cv 0)) 0)), .c Asn.any, .c (tB.is find.2)] [([], [2]), ([0], []), ([], [6]), ([1, 2], []), ([3], []), ([], [3]), ([4, 5], []), ([6], []), ([7], []), ([7], []), ([], []), ([8, 10], []), ([9], [])] [10, 11] [[], [], [], [], [], [], [], [], [], [], [true], [], []] (fun m cv => match m with | 0 => [(4, (Bx 8 true 27 (tapi_Unit.is v) b))] | 1 => [(7, (Bx 8 true 27 (tapi_Unit.is zapi_Unit) (bk (cv 0)))), (4, (Bx 8 true 27 (tapi_Unit.is v) b))] | _ => [(7, (Bx 8 true 27 (tapi_Unit.is find.1) (bk (cv 0)))), (4, (Bx 8 true 27 (tapi_Unit.is v) b))]) (fun _ => none) Try.mixed rfl rfl rfl rfl rfl ⟨fun _ _ _ _ => rfl, ⟨fun _ _ _ _ => rfl, ⟨fun _ _ _ _ => rfl, ⟨fun _ _ _ _ => rfl, ⟨fun _ _ _ _ => rfl, ⟨fun _ _ _ _ => rfl, ⟨fun _ _ _ _ => rfl, ⟨fun _ _ _ _ => rfl, ⟨fun _ _ _ _ => rfl, ⟨fun _ _ _ _ => rfl, ⟨fun m hm c t => by simp only [DA.at, upd_dep (r := [true]) (j := 0) rfl hm], ⟨fun _ _ _ _ => rfl, ⟨fun _ _ _ _ => rfl, trivial⟩⟩⟩⟩⟩⟩⟩⟩⟩⟩⟩⟩⟩ rfl ⟨mo fun cv => Op1.fieldAddr Try.underlying27 rfl (fun w => ⟨0, Try.sizeOf25 w⟩) fapi_Unit_5 (.tmp rfl), ⟨mo fun cv => Op1.load ty25 (.tmp rfl), ⟨mo fun cv => Op1.move (.tmp rfl), ⟨mo fun cv => Op1.idx hv9 Try.underlying25 Try.sizeOf27 (.tmp rfl) (.tmp rfl), ⟨mo fun cv => Op1.load ty27 (.tmp rfl), ⟨mo fun cv => Op1.load ty23 (.tmp rfl), ⟨mo fun cv => Op1.call Try.call20 (ih _ _ _ hv10) ⟨(.tmp rfl), (.tmp rfl), trivial⟩, ⟨mo fun cv => Op1.move (.tmp rfl), ⟨mo fun cv => Op1.extract0 (.tmp rfl), ⟨mo fun cv => Op1.extract1 (.tmp rfl), ⟨.inl rfl, ⟨.inl rfl, ⟨mo fun cv => Op1.assign (.tmp rfl), trivial⟩⟩⟩⟩⟩⟩⟩⟩⟩⟩⟩⟩⟩ ⟨⟨_, _, _, [], (fun cv => [(7, (Bx 8 true 27 (tapi_Unit.is zapi_Unit) (bk (cv 0))))]), rfl, rfl, rfl, rfl, fun _ => rfl, fun _ _ => rfl, fun cv => OpR.viaB (OpR.alloc 7 ze27)⟩, ⟨⟨_, _, _, [7], (fun cv => [(7, (Bx 8 true 27 (tapi_Unit.is find.1) (bk (cv 0))))]), rfl, rfl, rfl, rfl, fun _ => rfl, fun _ _ => rfl, fun cv => OpR.viaU (OpR.storeB (b := (bk (cv 0))) 7 Try.sizeOf27 (Cellable.is tapi_Unit find.1) rfl (.tmp rfl) (.tmp rfl))⟩, trivial⟩⟩ (fun cv => ?_)
     refine WN.seq ?_
     refine W.sr ?_
     refine WL.mv rfl rfl ?_
     refine WL.ns ?_
     refine W.cond (.tmp rfl) (fun hc11 => ?_) (fun hc11 => ?_)
     ·have hp12 := hc11
      rw [if_pos hp12] at hm
      refine W.sr ?_
      refine WL.op rfl (.loadB 7 Try.isAgg27 Try.sizeOf27 rfl (.tmp rfl)) ?_
      refine WL.opU (OpR.storeB (b := b) 4 Try.sizeOf27 (Cellable.is tapi_Unit find.1) rfl (.tmp rfl) (.tmp rfl)) (fun _ => ?_)
      refine WL.op rfl (.assign .bool) ?_
      refine WL.ns ?_
      have hr13 := Option.some.inj hm
      clear hm
      subst hr13
      have hm := hk5
      try dsimp only at hm
      cases hm
      exact W.retQ2 () rfl rfl (ResAt.cell 4 Try.isAgg27 Try.sizeOf27 rfl (.tmp rfl)) (ResAt.tmp (.tmp rfl)) trivial
     ·have hp12 := ne_of_false hc11
      rw [if_neg hp12] at hm
      refine W.skip ?_
      refine WN.block ?_
      refine WN.seq ?_
      refine W.region ?_
      refine WL.mv rfl rfl ?_
      refine WL.lenL (s := 16) (.tmp rfl) fun hl14 => ?_
      refine WL.op rfl (.addI1 (.tmp rfl) .i64 hp8 hl14) ?_
      refine WL.gv rfl rfl ?_
      refine WL.nil ?_
      exact WN.again n6 (i + 1, v) (Nat.lt_succ_self n6) hm ⟨Ent.q rfl, Ent.q rfl, Ent.q rfl, Ent.q rfl, trivial⟩ ⟨rfl, rfl, trivial⟩
    ·have hp8 := of_decide_eq_false hc7
     rw [if_neg hp8] at hm
     refine W.exit rfl ?_
     have hr15 := Option.some.inj hm
     clear hm
     subst hr15
     have hm := hk5
     try dsimp only at hm
     refine WN.seq ?_
     refine W.sr ?_
     refine WL.op rfl (.build (s := tapi_Unit) (x := (⟨zapi_Id, (0 : Int), ([] : Str), ([] : List api_Word), ([] : List api_Word), ([] : List api_Unit)⟩ : api_Unit)) zapi_Unit_f rfl Try.underlying27 (zapi_Unit_sz _ Try.underlying27) ze27 rfl) ?_
     refine WL.opU (OpR.storeB (b := b) 4 Try.sizeOf27 (Cellable.is tapi_Unit (⟨zapi_Id, (0 : Int), ([] : Str), ([] : List api_Word), ([] : List api_Word), ([] : List api_Unit)⟩ : api_Unit)) rfl (.tmp rfl) (.tmp rfl)) (fun _ => ?_)
     refine WL.op rfl (.assign .bool) ?_
     refine WL.ns ?_
     cases hm
     exact W.retQ2 () rfl rfl (ResAt.cell 4 Try.isAgg27 Try.sizeOf27 rfl (.tmp rfl)) (ResAt.tmp (.tmp rfl)) trivial

theorem r06_Above_spec : ∀ (n : Nat) (u : api_Unit) (id : api_Id) (r : (List api_Id)), M.r06_Above n u id = some r → FSpecR Try.prog 33 [(tapi_Unit.is u), (tapi_Id.is id)] [] (fun k : Tok => tO tapi_Id k r) (fun k => [(77777, Dec.Own tapi_Id 23 k r.length)]) := by
 intro n
 induction n with
 | zero => intro u id r hm; cases hm
 | succ n ih =>
  intro u id r hm
  rw [M.r06_Above.eq_2] at hm
  refine FSpecR.of Try.func33 rfl rfl rfl (fun g0 => ?_)
  refine W.sr ?_
  refine WL.op rfl (.box (.tmp rfl)) ?_
  refine WL.op rfl (.box (.tmp rfl)) ?_
  refine WL.addNil (t := tapi_Id) (E := 23) 4 ?_
  refine WL.op rfl (.assign (Opd.nilO (t := tapi_Id))) ?_
  refine WL.ns ?_
  refine W.seq ?_
  refine W.sr ?_
  refine WL.op rfl (.fieldAddr Try.underlying27 rfl (fun w => ⟨2, Try.sizeOf23 w⟩) fapi_Unit_0 (.tmp rfl)) ?_
  refine WL.op rfl (.load ty23 (.tmp rfl)) ?_
  refine WL.op rfl (.load ty23 (.tmp rfl)) ?_
  refine WL.op rfl (.eqSt (D := 2) rfl (by decide) eg23 eq23 (.tmp rfl) (.tmp rfl)) ?_
  refine WL.ns ?_
  refine W.cond (.tmp rfl) (fun hc1 => ?_) (fun hc1 => ?_)
  ·have hp2 := of_decide_eq_true hc1
   rw [if_pos hp2] at hm
   refine W.sr ?_
   refine WL.addNil (t := tapi_Id) (E := 23) 4 ?_
   refine WL.op rfl (.assign (Opd.nilO (t := tapi_Id))) ?_
   refine WL.ns ?_
   have hr := Option.some.inj hm
   clear hm
   subst hr
   refine W.weakR (res' := [(4, Dec.Own tapi_Id 23 (none : Tok) ([] : List api_Id).length)]) ⟨rfl, rfl, trivial⟩ ?_
   refine W.rekey (res' := [(77777, Dec.Own tapi_Id 23 (none : Tok) ([] : List api_Id).length)]) rfl ?_
   exact W.ret1 (none : Tok) rfl (.tmp rfl) ⟨rfl, rfl, trivial⟩
  ·have hp2 := of_decide_eq_false hc1
   rw [if_neg hp2] at hm
   refine W.skip ?_
   refine WN.seq ?_
   refine W.seq ?_
   refine W.sr ?_
   refine WL.op rfl (.assign .i64) ?_
   refine WL.ns ?_
   refine W.block ?_
   obtain ⟨s3, hs4, hk5⟩ := bind_some hm
   clear hm
   refine W.loop (fun m (s : Int) => M.r06_Above_loop1 u id (M.r06_Above n) m s = some s3) (fun s => [(5, ((tI .i64).is s)), (2, (tapi_Unit.ptr u)), (3, (tapi_Id.ptr id))]) (fun s => []) _ (0 : Int) hs4 ⟨Ent.q rfl, Ent.q rfl, Ent.q rfl, trivial⟩ trivial ?_
   rintro n6 i hm
   try dsimp only at hm
   change W _ _ _ _ _ _ _ [(5, ((tI .i64).is i)), (2, (tapi_Unit.ptr u)), (3, (tapi_Id.ptr id))] []
   cases n6 with
   | zero => rw [M.r06_Above_loop1.eq_1] at hm; cases hm
   | succ n6 =>
    rw [M.r06_Above_loop1.eq_2] at hm
    refine W.seq ?_
    refine W.sr ?_
    refine WL.mv rfl rfl ?_
    refine WL.op rfl (.fieldAddr Try.underlying27 rfl (fun w => ⟨0, Try.sizeOf25 w⟩) fapi_Unit_5 (.tmp rfl)) ?_
    refine WL.op rfl (.load ty25 (.tmp rfl)) ?_
    refine WL.op rfl (.lenL Try.underlying25 (.tmp rfl)) ?_
    refine WL.op rfl (.ltI (.tmp rfl) (.tmp rfl)) ?_
    refine WL.ns ?_
    refine W.cond (.tmp rfl) (fun hc7 => ?_) (fun hc7 => ?_)
    ·have hp8 := of_decide_eq_true hc7
     rw [if_pos hp8] at hm
     refine W.skip ?_
     refine WN.seq ?_
     refine W.seq ?_
     refine W.block ?_
     refine W.seq ?_
     obtain ⟨v, hv9, hm⟩ := bind_some hm
     obtain ⟨find, hv10, hm⟩ := bind_some hm
     refine W.weakR (res' := []) trivial ?_
     refine W.drawM [.c ((tL tapi_Unit).ptr u.Kids), .c ((tL tapi_Unit).is u.Kids), .c ((tI .i64).is i), .c (tapi_Unit.ptr v), .c (tapi_Unit.is v), .c (tapi_Id.is id), .c (Asn.tuple2 (tapi_Unit.is find.1) (tB.is find.2)), .c (Asn.tuple2 (tapi_Unit.is find.1) (tB.is find.2)), .c (tapi_Unit.is find.1), .c (tB.is find.2), .f (fun cv => (Bp (bk (cv 0)) 0)), .c Asn.any, .c (tB.is find.2)] [([], [2]), ([0], []), ([], [5]), ([1, 2], []), ([3], []), ([], [3]), ([4, 5], []), ([6], []), ([7], []), ([7], []), ([], []), ([8, 10], []), ([9], [])] [10, 11] [[], [], [], [], [], [], [], [], [], [], [true], [], []] (fun m cv => match m with | 0 => [] | 1 => [(6, (Bx 8 true 27 (tapi_Unit.is zapi_Unit) (bk (cv 0))))] | _ => [(6, (Bx 8 true 27 (tapi_Unit.is find.1) (bk (cv 0))))]) (fun _ => none) Try.mixed rfl rfl rfl rfl rfl ⟨fun _ _ _ _ => rfl, ⟨fun _ _ _ _ => rfl, ⟨fun _ _ _ _ => rfl, ⟨fun _ _ _ _ => rfl, ⟨fun _ _ _ _ => rfl, ⟨fun _ _ _ _ => rfl, ⟨fun _ _ _ _ => rfl, ⟨fun _ _ _ _ => rfl, ⟨fun _ _ _ _ => rfl, ⟨fun _ _ _ _ => rfl, ⟨fun m hm c t => by simp only [DA.at, upd_dep (r := [true]) (j := 0) rfl hm], ⟨fun _ _ _ _ => rfl, ⟨fun _ _ _ _ => rfl, trivial⟩⟩⟩⟩⟩⟩⟩⟩⟩⟩⟩⟩⟩ rfl ⟨mo fun cv => Op1.fieldAddr Try.underlying27 rfl (fun w => ⟨0, Try.sizeOf25 w⟩) fapi_Unit_5 (.tmp rfl), ⟨mo fun cv => Op1.load ty25 (.tmp rfl), ⟨mo fun cv => Op1.move (.tmp rfl), ⟨mo fun cv => Op1.idx hv9 Try.underlying25 Try.sizeOf27 (.tmp rfl) (.tmp rfl), ⟨mo fun cv => Op1.load ty27 (.tmp rfl), ⟨mo fun cv => Op1.load ty23 (.tmp rfl), ⟨mo fun cv => Op1.call Try.call20 (r06_Find_spec _ _ _ _ hv10) ⟨(.tmp rfl), (.tmp rfl), trivial⟩, ⟨mo fun cv => Op1.move (.tmp rfl), ⟨mo fun cv => Op1.extract0 (.tmp rfl), ⟨mo fun cv => Op1.extract1 (.tmp rfl), ⟨.inl rfl, ⟨.inl rfl, ⟨mo fun cv => Op1.assign (.tmp rfl), trivial⟩⟩⟩⟩⟩⟩⟩⟩⟩⟩⟩⟩⟩ ⟨⟨_, _, _, [], (fun cv => [(6, (Bx 8 true 27 (tapi_Unit.is zapi_Unit) (bk (cv 0))))]), rfl, rfl, rfl, rfl, fun _ => rfl, fun _ _ => rfl, fun cv => OpR.viaB (OpR.alloc 6 ze27)⟩, ⟨⟨_, _, _, [6], (fun cv => [(6, (Bx 8 true 27 (tapi_Unit.is find.1) (bk (cv 0))))]), rfl, rfl, rfl, rfl, fun _ => rfl, fun _ _ => rfl, fun cv => OpR.viaU (OpR.storeB (b := (bk (cv 0))) 6 Try.sizeOf27 (Cellable.is tapi_Unit find.1) rfl (.tmp rfl) (.tmp rfl))⟩, trivial⟩⟩ (fun cv => ?_)
     refine WN.seq ?_
     refine W.sr ?_
     refine WL.mv rfl rfl ?_
     refine WL.ns ?_
     refine W.cond (.tmp rfl) (fun hc11 => ?_) (fun hc11 => ?_)
     ·have hp12 := hc11
      rw [if_pos hp12] at hm
      refine W.seq ?_
      obtain ⟨v1, hv13, hm⟩ := bind_some hm
      obtain ⟨above, hv14, hm⟩ := bind_some hm
      obtain ⟨out, hv15, hm⟩ := bind_some hm
      refine W.weakR (res' := [(6, (Bx 8 true 27 (tapi_Unit.is find.1) (bk (cv 0))))]) ⟨rfl, rfl, trivial⟩ ?_
      refine W.drawM [.c ((tL tapi_Unit).ptr u.Kids), .c ((tL tapi_Unit).is u.Kids), .c ((tI .i64).is i), .c (tapi_Unit.ptr v1), .c (tapi_Unit.is v1), .c (tapi_Id.is id), .f (fun cv1 => (tO tapi_Id (cv1 0) above)), .c (tapi_Id.ptr u.Id), .c (tapi_Id.is u.Id), .c ((tL tapi_Id).is [u.Id]), .f (fun cv1 => (tO tapi_Id (cv1 1) out)), .f (fun cv1 => (tO tapi_Id (cv1 1) out))] [([], [2]), ([0], []), ([], [5]), ([1, 2], []), ([3], []), ([], [3]), ([4, 5], []), ([], [2]), ([7], []), ([8], []), ([6, 9], []), ([10], [])] [6, 10] [[], [], [], [], [], [], [true], [], [], [], [false, true], [false, true]] (fun m cv1 => match m with | 0 => [(6, (Bx 8 true 27 (tapi_Unit.is find.1) (bk (cv 0))))] | 1 => [(36, Dec.Own tapi_Id 23 (cv1 0) above.length), (6, (Bx 8 true 27 (tapi_Unit.is find.1) (bk (cv 0))))] | _ => [(36, Dec.Own tapi_Id 23 (cv1 1) out.length), (6, (Bx 8 true 27 (tapi_Unit.is find.1) (bk (cv 0))))]) (fun _ => none) Try.mixed rfl rfl rfl rfl rfl ⟨fun _ _ _ _ => rfl, ⟨fun _ _ _ _ => rfl, ⟨fun _ _ _ _ => rfl, ⟨fun _ _ _ _ => rfl, ⟨fun _ _ _ _ => rfl, ⟨fun _ _ _ _ => rfl, ⟨fun m hm c t => by simp only [DA.at, upd_dep (r := [true]) (j := 0) rfl hm], ⟨fun _ _ _ _ => rfl, ⟨fun _ _ _ _ => rfl, ⟨fun _ _ _ _ => rfl, ⟨fun m hm c t => by simp only [DA.at, upd_dep (r := [false, true]) (j := 1) rfl hm], ⟨fun m hm c t => by simp only [DA.at, upd_dep (r := [false, true]) (j := 1) rfl hm], trivial⟩⟩⟩⟩⟩⟩⟩⟩⟩⟩⟩⟩ rfl ⟨mo fun cv1 => Op1.fieldAddr Try.underlying27 rfl (fun w => ⟨0, Try.sizeOf25 w⟩) fapi_Unit_5 (.tmp rfl), ⟨mo fun cv1 => Op1.load ty25 (.tmp rfl), ⟨mo fun cv1 => Op1.move (.tmp rfl), ⟨mo fun cv1 => Op1.idx hv13 Try.underlying25 Try.sizeOf27 (.tmp rfl) (.tmp rfl), ⟨mo fun cv1 => Op1.load ty27 (.tmp rfl), ⟨mo fun cv1 => Op1.load ty23 (.tmp rfl), ⟨.inl rfl, ⟨mo fun cv1 => Op1.fieldAddr Try.underlying27 rfl (fun w => ⟨2, Try.sizeOf23 w⟩) fapi_Unit_0 (.tmp rfl), ⟨mo fun cv1 => Op1.load ty23 (.tmp rfl), ⟨mo fun cv1 => Op1.buildSlice (n := 1) (ys := [(0, u.Id)]) (z := zapi_Id) (xs := [u.Id]) Try.underlying31 el23 ze23 ⟨rfl, (.tmp rfl), trivial⟩ (by simp) (by decide) rfl, ⟨.inl rfl, ⟨mo fun cv1 => Op1.assign (.tmp rfl), trivial⟩⟩⟩⟩⟩⟩⟩⟩⟩⟩⟩⟩ ⟨⟨_, _, _, [], (fun cv1 => [(36, Dec.Own tapi_Id 23 (cv1 0) above.length)]), rfl, rfl, rfl, rfl, fun _ => rfl, fun _ _ => rfl, fun cv1 => OpR.call (us := []) Try.call33 ((ih _ _ _ hv14).rekey 36) rfl ⟨(.tmp rfl), (.tmp rfl), trivial⟩⟩, ⟨⟨_, _, _, [36], (fun cv1 => [(36, Dec.Own tapi_Id 23 (cv1 1) out.length)]), rfl, rfl, rfl, rfl, fun _ => rfl, fun _ _ => rfl, fun cv1 => OpR.appC (key := 36) hv15 Try.underlying31 el23 (.tmp rfl) (.tmp rfl) rfl⟩, trivial⟩⟩ (fun cv1 => ?_)
      refine WN.seq ?_
      have hr16 := Option.some.inj hm
      clear hm
      subst hr16
      have hm := hk5
      try dsimp only at hm
      have hr := Option.some.inj hm
      clear hm
      subst hr
      refine W.weakR (res' := [(36, Dec.Own tapi_Id 23 (cv1 1) out.length)]) ⟨rfl, rfl, trivial⟩ ?_
      refine W.rekey (res' := [(77777, Dec.Own tapi_Id 23 (cv1 1) out.length)]) rfl ?_
      exact W.ret1 (cv1 1) rfl (.tmp rfl) ⟨rfl, rfl, trivial⟩
     ·have hp12 := ne_of_false hc11
      rw [if_neg hp12] at hm
      refine W.skip ?_
      refine WN.block ?_
      refine WN.seq ?_
      refine W.region ?_
      refine WL.mv rfl rfl ?_
      refine WL.lenL (s := 14) (.tmp rfl) fun hl17 => ?_
      refine WL.op rfl (.addI1 (.tmp rfl) .i64 hp8 hl17) ?_
      refine WL.gv rfl rfl ?_
      refine WL.nil ?_
      exact WN.again n6 (i + 1) (Nat.lt_succ_self n6) hm ⟨Ent.q rfl, Ent.q rfl, Ent.q rfl, trivial⟩ trivial
    ·have hp8 := of_decide_eq_false hc7
     rw [if_neg hp8] at hm
     refine W.exit rfl ?_
     have hr18 := Option.some.inj hm
     clear hm
     subst hr18
     have hm := hk5
     try dsimp only at hm
     refine WN.seq ?_
     refine W.sr ?_
     refine WL.addNil (t := tapi_Id) (E := 23) 4 ?_
     refine WL.op rfl (.assign (Opd.nilO (t := tapi_Id))) ?_
     refine WL.ns ?_
     have hr := Option.some.inj hm
     clear hm
     subst hr
     refine W.weakR (res' := [(4, Dec.Own tapi_Id 23 (none : Tok) ([] : List api_Id).length)]) ⟨rfl, rfl, trivial⟩ ?_
     refine W.rekey (res' := [(77777, Dec.Own tapi_Id 23 (none : Tok) ([] : List api_Id).length)]) rfl ?_
     exact W.ret1 (none : Tok) rfl (.tmp rfl) ⟨rfl, rfl, trivial⟩

theorem r41_This_spec (n : Nat) (u : api_Unit) (at0_ : api_Id) (kind : Int) (r : api_Id × Bool) (hm : M.r41_This n u at0_ kind = some r) : FSpec Try.prog 14 [(tapi_Unit.is u), (tapi_Id.is at0_), ((tI .i64).is kind)] (Asn.tuple2 (tapi_Id.is r.1) (tB.is r.2)) := by
 unfold M.r41_This at hm
 refine FSpec.of Try.func14 rfl rfl rfl (fun g0 => ?_)
 refine W.sr ?_
 refine WL.op rfl (.box (.tmp rfl)) ?_
 refine WL.op rfl (.box (.tmp rfl)) ?_
 refine WL.opR rfl (OpR.alloc 6 ze23) (fun b => ?_)
 refine WL.op rfl (.assign .bool) ?_
 refine WL.nr ?_
 refine WL.op rfl (.load ty27 (.tmp rfl)) ?_
 refine WL.op rfl (.load ty23 (.tmp rfl)) ?_
 obtain ⟨get, hv1, hm⟩ := bind_some hm
 refine WL.op rfl (.call Try.call28 (r23_Get_spec _ _ _ _ hv1) ⟨(.tmp rfl), (.tmp rfl), trivial⟩) ?_
 refine WL.mv rfl rfl ?_
 refine WL.op rfl (.extract0 (.tmp rfl)) ?_
 refine WL.op rfl (.extract1 (.tmp rfl)) ?_
 refine WL.opR rfl (OpR.alloc 8 ze27) (fun b1 => ?_)
 refine WL.opU (OpR.storeB (b := b1) 8 Try.sizeOf27 (Cellable.is tapi_Unit get.1) rfl (.tmp rfl) (.tmp rfl)) (fun _ => ?_)
 refine WL.sealed (t := tapi_Unit) (u := get.1) 8 8 rfl rfl ?_
 refine WL.gv rfl rfl ?_
 refine WL.ns ?_
 refine W.seq ?_
 refine W.sr ?_
 refine WL.mv rfl rfl ?_
 refine WL.op rfl (.ltI (.tmp rfl) .i64) ?_
 refine WL.ns ?_
 refine W.cond (.tmp rfl) (fun hc2 => ?_) (fun hc2 => ?_)
 ·have hp3 := of_decide_eq_true hc2
  rw [if_pos hp3] at hm
  refine W.sr ?_
  refine WL.op rfl (.build (s := tapi_Id) (x := (⟨(0 : Int), (0 : Int), (0 : Int)⟩ : api_Id)) zapi_Id_f rfl Try.underlying23 (zapi_Id_sz _ Try.underlying23) ze23 rfl) ?_
  refine WL.opU (OpR.storeB (b := b) 6 Try.sizeOf23 (Cellable.is tapi_Id (⟨(0 : Int), (0 : Int), (0 : Int)⟩ : api_Id)) rfl (.tmp rfl) (.tmp rfl)) (fun _ => ?_)
  refine WL.op rfl (.assign .bool) ?_
  refine WL.ns ?_
  cases hm
  exact W.retQ2 () rfl rfl (ResAt.cell 6 Try.isAgg23 Try.sizeOf23 rfl (.tmp rfl)) (ResAt.tmp (.tmp rfl)) trivial
 ·have hp3 := of_decide_eq_false hc2
  rw [if_neg hp3] at hm
  refine W.skip ?_
  refine WN.seq ?_
  refine W.seq ?_
  refine W.sr ?_
  refine WL.op rfl (.fieldAddr Try.underlying27 rfl (fun w => ⟨0, Try.sizeOf3 w⟩) fapi_Unit_1 (.tmp rfl)) ?_
  refine WL.op rfl (.load ty3 (.tmp rfl)) ?_
  refine WL.mv rfl rfl ?_
  refine WL.op rfl (.eqI (.tmp rfl) (.tmp rfl)) ?_
  refine WL.ns ?_
  refine W.cond (.tmp rfl) (fun hc4 => ?_) (fun hc4 => ?_)
  ·have hp5 := of_decide_eq_true hc4
   rw [if_pos hp5] at hm
   refine W.sr ?_
   refine WL.op rfl (.load ty23 (.tmp rfl)) ?_
   refine WL.opU (OpR.storeB (b := b) 6 Try.sizeOf23 (Cellable.is tapi_Id at0_) rfl (.tmp rfl) (.tmp rfl)) (fun _ => ?_)
   refine WL.op rfl (.assign .bool) ?_
   refine WL.ns ?_
   cases hm
   exact W.retQ2 () rfl rfl (ResAt.cell 6 Try.isAgg23 Try.sizeOf23 rfl (.tmp rfl)) (ResAt.tmp (.tmp rfl)) trivial
  ·have hp5 := of_decide_eq_false hc4
   rw [if_neg hp5] at hm
   refine W.skip ?_
   refine WN.seq ?_
   refine W.sr ?_
   refine WL.op rfl (.load ty27 (.tmp rfl)) ?_
   refine WL.op rfl (.load ty23 (.tmp rfl)) ?_
   obtain ⟨above, hv6, hm⟩ := bind_some hm
   refine WL.op rfl (.call Try.call33 ((r06_Above_spec _ _ _ _ hv6).read fun _ _ _ => tO_tL) ⟨(.tmp rfl), (.tmp rfl), trivial⟩) ?_
   refine WL.gv rfl rfl ?_
   refine WL.ns ?_
   refine W.seq ?_
   refine W.sr ?_
   refine WL.op rfl (.assign .i64) ?_
   refine WL.ns ?_
   refine W.block ?_
   obtain ⟨s7, hs8, hk9⟩ := bind_some hm
   clear hm
   refine W.loop (fun m (s : Int × api_Id) => M.r41_This_loop1 u kind above m s.1 s.2 = some s7) (fun s => [(11, ((tI .i64).is s.1)), (2, ((tI .i64).is kind)), (3, (tapi_Unit.ptr u)), (6, (Bp b 0)), (10, ((tL tapi_Id).is above))]) (fun s => [(6, (Bx 3 true 23 (tapi_Id.is s.2) b))]) _ ((0 : Int), zapi_Id) hs8 ⟨Ent.q rfl, Ent.q rfl, Ent.q rfl, Ent.q rfl, Ent.q rfl, trivial⟩ ⟨rfl, rfl, trivial⟩ ?_
   rintro n10 ⟨i, v⟩ hm
   try dsimp only at hm
   change W _ _ _ _ _ _ _ [(11, ((tI .i64).is i)), (2, ((tI .i64).is kind)), (3, (tapi_Unit.ptr u)), (6, (Bp b 0)), (10, ((tL tapi_Id).is above))] [(6, (Bx 3 true 23 (tapi_Id.is v) b))]
   cases n10 with
   | zero => rw [M.r41_This_loop1.eq_1] at hm; cases hm
   | succ n10 =>
    rw [M.r41_This_loop1.eq_2] at hm
    refine W.seq ?_
    refine W.sr ?_
    refine WL.mv rfl rfl ?_
    refine WL.mv rfl rfl ?_
    refine WL.op rfl (.lenL Try.underlying31 (.tmp rfl)) ?_
    refine WL.op rfl (.ltI (.tmp rfl) (.tmp rfl)) ?_
    refine WL.ns ?_
    refine W.cond (.tmp rfl) (fun hc11 => ?_) (fun hc11 => ?_)
    ·have hp12 := of_decide_eq_true hc11
     rw [if_pos hp12] at hm
     refine W.skip ?_
     refine WN.seq ?_
     refine W.seq ?_
     refine W.block ?_
     refine W.seq ?_
     obtain ⟨v1, hv13, hm⟩ := bind_some hm
     obtain ⟨get1, hv14, hm⟩ := bind_some hm
     refine W.weakR (res' := [(6, (Bx 3 true 23 (tapi_Id.is v) b))]) ⟨rfl, rfl, trivial⟩ ?_
     refine W.drawM [.c (tapi_Unit.is u), .c ((tL tapi_Id).is above), .c ((tI .i64).is i), .c (tapi_Id.ptr v1), .c (tapi_Id.is v1), .c (Asn.tuple2 (tapi_Unit.is get1.1) ((tI .i64).is get1.2)), .c (Asn.tuple2 (tapi_Unit.is get1.1) ((tI .i64).is get1.2)), .c (tapi_Unit.is get1.1), .c ((tI .i64).is get1.2), .f (fun cv => (Bp (bk (cv 0)) 0)), .c Asn.any, .c ((tI .i64).is get1.2)] [([], [3]), ([], [10]), ([], [11]), ([1, 2], []), ([3], []), ([0, 4], []), ([5], []), ([6], []), ([6], []), ([], []), ([7, 9], []), ([8], [])] [9, 10] [[], [], [], [], [], [], [], [], [], [true], [], []] (fun m cv => match m with | 0 => [(6, (Bx 3 true 23 (tapi_Id.is v) b))] | 1 => [(12, (Bx 8 true 27 (tapi_Unit.is zapi_Unit) (bk (cv 0)))), (6, (Bx 3 true 23 (tapi_Id.is v) b))] | _ => [(12, (Bx 8 true 27 (tapi_Unit.is get1.1) (bk (cv 0)))), (6, (Bx 3 true 23 (tapi_Id.is v) b))]) (fun _ => none) Try.mixed rfl rfl rfl rfl rfl ⟨fun _ _ _ _ => rfl, ⟨fun _ _ _ _ => rfl, ⟨fun _ _ _ _ => rfl, ⟨fun _ _ _ _ => rfl, ⟨fun _ _ _ _ => rfl, ⟨fun _ _ _ _ => rfl, ⟨fun _ _ _ _ => rfl, ⟨fun _ _ _ _ => rfl, ⟨fun _ _ _ _ => rfl, ⟨fun m hm c t => by simp only [DA.at, upd_dep (r := [true]) (j := 0) rfl hm], ⟨fun _ _ _ _ => rfl, ⟨fun _ _ _ _ => rfl, trivial⟩⟩⟩⟩⟩⟩⟩⟩⟩⟩⟩⟩ rfl ⟨mo fun cv => Op1.load ty27 (.tmp rfl), ⟨mo fun cv => Op1.move (.tmp rfl), ⟨mo fun cv => Op1.move (.tmp rfl), ⟨mo fun cv => Op1.idx hv13 Try.underlying31 Try.sizeOf23 (.tmp rfl) (.tmp rfl), ⟨mo fun cv => Op1.load ty23 (.tmp rfl), ⟨mo fun cv => Op1.call Try.call28 (r23_Get_spec _ _ _ _ hv14) ⟨(.tmp rfl), (.tmp rfl), trivial⟩, ⟨mo fun cv => Op1.move (.tmp rfl), ⟨mo fun cv => Op1.extract0 (.tmp rfl), ⟨mo fun cv => Op1.extract1 (.tmp rfl), ⟨.inl rfl, ⟨.inl rfl, ⟨mo fun cv => Op1.assign (.tmp rfl), trivial⟩⟩⟩⟩⟩⟩⟩⟩⟩⟩⟩⟩ ⟨⟨_, _, _, [], (fun cv => [(12, (Bx 8 true 27 (tapi_Unit.is zapi_Unit) (bk (cv 0))))]), rfl, rfl, rfl, rfl, fun _ => rfl, fun _ _ => rfl, fun cv => OpR.viaB (OpR.alloc 12 ze27)⟩, ⟨⟨_, _, _, [12], (fun cv => [(12, (Bx 8 true 27 (tapi_Unit.is get1.1) (bk (cv 0))))]), rfl, rfl, rfl, rfl, fun _ => rfl, fun _ _ => rfl, fun cv => OpR.viaU (OpR.storeB (b := (bk (cv 0))) 12 Try.sizeOf27 (Cellable.is tapi_Unit get1.1) rfl (.tmp rfl) (.tmp rfl))⟩, trivial⟩⟩ (fun cv => ?_)
     refine WN.seq ?_
     refine W.sr ?_
     refine WL.op rfl (.fieldAddrB (o := 0) Try.underlying27 rfl (fun w => ⟨0, Try.sizeOf3 w⟩) (.tmp rfl) rfl) ?_
     refine WL.op rfl (.loadBF 12 rfl ty3 fapi_Unit_1 rfl (.tmp rfl)) ?_
     refine WL.mv rfl rfl ?_
     refine WL.op rfl (.eqI (.tmp rfl) (.tmp rfl)) ?_
     refine WL.ns ?_
     refine W.cond (.tmp rfl) (fun hc15 => ?_) (fun hc15 => ?_)
     ·have hp16 := of_decide_eq_true hc15
      rw [if_pos hp16] at hm
      refine W.sr ?_
      refine WL.mv rfl rfl ?_
      refine WL.mv rfl rfl ?_
      obtain ⟨v2, hv17, hm⟩ := bind_some hm
      refine WL.op rfl (.idx hv17 Try.underlying31 Try.sizeOf23 (.tmp rfl) (.tmp rfl)) ?_
      refine WL.op rfl (.load ty23 (.tmp rfl)) ?_
      refine WL.opU (OpR.storeB (b := b) 6 Try.sizeOf23 (Cellable.is tapi_Id v2) rfl (.tmp rfl) (.tmp rfl)) (fun _ => ?_)
      refine WL.op rfl (.assign .bool) ?_
      refine WL.ns ?_
      have hr18 := Option.some.inj hm
      clear hm
      subst hr18
      have hm := hk9
      try dsimp only at hm
      cases hm
      exact W.retQ2 () rfl rfl (ResAt.cell 6 Try.isAgg23 Try.sizeOf23 rfl (.tmp rfl)) (ResAt.tmp (.tmp rfl)) trivial
     ·have hp16 := of_decide_eq_false hc15
      rw [if_neg hp16] at hm
      refine W.skip ?_
      refine WN.block ?_
      refine WN.seq ?_
      refine W.region ?_
      refine WL.mv rfl rfl ?_
      refine WL.lenL (s := 10) (.tmp rfl) fun hl19 => ?_
      refine WL.op rfl (.addI1 (.tmp rfl) .i64 hp12 hl19) ?_
      refine WL.gv rfl rfl ?_
      refine WL.nil ?_
      exact WN.again n10 (i + 1, v) (Nat.lt_succ_self n10) hm ⟨Ent.q rfl, Ent.q rfl, Ent.q rfl, Ent.q rfl, Ent.q rfl, trivial⟩ ⟨rfl, rfl, trivial⟩
    ·have hp12 := of_decide_eq_false hc11
     rw [if_neg hp12] at hm
     refine W.exit rfl ?_
     have hr20 := Option.some.inj hm
     clear hm
     subst hr20
     have hm := hk9
     try dsimp only at hm
     refine WN.seq ?_
     refine W.sr ?_
     refine WL.op rfl (.build (s := tapi_Id) (x := (⟨(0 : Int), (0 : Int), (0 : Int)⟩ : api_Id)) zapi_Id_f rfl Try.underlying23 (zapi_Id_sz _ Try.underlying23) ze23 rfl) ?_
     refine WL.opU (OpR.storeB (b := b) 6 Try.sizeOf23 (Cellable.is tapi_Id (⟨(0 : Int), (0 : Int), (0 : Int)⟩ : api_Id)) rfl (.tmp rfl) (.tmp rfl)) (fun _ => ?_)
     refine WL.op rfl (.assign .bool) ?_
     refine WL.ns ?_
     cases hm
     exact W.retQ2 () rfl rfl (ResAt.cell 6 Try.isAgg23 Try.sizeOf23 rfl (.tmp rfl)) (ResAt.tmp (.tmp rfl)) trivial

theorem r41_down_spec (n : Nat) (u : api_Unit) (id : api_Id) (p : List api_Step) (r : (List api_Id) × Int) (hm : M.r41_down n u id p = some r) : FSpec Try.prog 27 [(tapi_Unit.is u), (tapi_Id.is id), ((tL tapi_Step).is p)] (Asn.tuple2 ((tL tapi_Id).is r.1) ((tI .i64).is r.2)) := by
 unfold M.r41_down at hm
 refine FSpec.of Try.func27 rfl rfl rfl (fun g0 => ?_)
 refine W.sr ?_
 refine WL.op rfl (.box (.tmp rfl)) ?_
 refine WL.op rfl (.box (.tmp rfl)) ?_
 refine WL.op rfl (.assign (.nil (t := tapi_Id))) ?_
 refine WL.op rfl (.assign .i64) ?_
 refine WL.nr ?_
 refine WL.op rfl (.load ty27 (.tmp rfl)) ?_
 refine WL.op rfl (.load ty23 (.tmp rfl)) ?_
 obtain ⟨get, hv1, hm⟩ := bind_some hm
 refine WL.op rfl (.call Try.call28 (r23_Get_spec _ _ _ _ hv1) ⟨(.tmp rfl), (.tmp rfl), trivial⟩) ?_
 refine WL.mv rfl rfl ?_
 refine WL.op rfl (.extract0 (.tmp rfl)) ?_
 refine WL.op rfl (.extract1 (.tmp rfl)) ?_
 refine WL.opR rfl (OpR.alloc 8 ze27) (fun b => ?_)
 refine WL.opU (OpR.storeB (b := b) 8 Try.sizeOf27 (Cellable.is tapi_Unit get.1) rfl (.tmp rfl) (.tmp rfl)) (fun _ => ?_)
 refine WL.gv rfl rfl ?_
 refine WL.ns ?_
 refine W.seq ?_
 refine W.sr ?_
 refine WL.op rfl (.assign .i64) ?_
 refine WL.ns ?_
 refine W.block ?_
 obtain ⟨s2, hs3, hk4⟩ := bind_some hm
 clear hm
 refine W.loop (fun m (s : Int × api_Unit) => M.r41_down_loop1 p m s.1 s.2 = some s2) (fun s => [(10, ((tI .i64).is s.1)), (2, ((tL tapi_Step).is p)), (8, (Bp b 0))]) (fun s => [(8, (Bx 8 true 27 (tapi_Unit.is s.2) b))]) _ ((0 : Int), get.1) hs3 ⟨Ent.q rfl, Ent.q rfl, Ent.q rfl, trivial⟩ ⟨rfl, rfl, trivial⟩ ?_
 rintro n5 ⟨i, x⟩ hm
 try dsimp only at hm
 change W _ _ _ _ _ _ _ [(10, ((tI .i64).is i)), (2, ((tL tapi_Step).is p)), (8, (Bp b 0))] [(8, (Bx 8 true 27 (tapi_Unit.is x) b))]
 cases n5 with
 | zero => rw [M.r41_down_loop1.eq_1] at hm; cases hm
 | succ n5 =>
  rw [M.r41_down_loop1.eq_2] at hm
  refine W.seq ?_
  refine W.sr ?_
  refine WL.mv rfl rfl ?_
  refine WL.mv rfl rfl ?_
  refine WL.op rfl (.lenL Try.underlying28 (.tmp rfl)) ?_
  refine WL.op rfl (.ltI (.tmp rfl) (.tmp rfl)) ?_
  refine WL.ns ?_
  refine W.cond (.tmp rfl) (fun hc6 => ?_) (fun hc6 => ?_)
  ·have hp7 := of_decide_eq_true hc6
   rw [if_pos hp7] at hm
   refine W.skip ?_
   refine WN.seq ?_
   refine W.seq ?_
   refine W.block ?_
   refine W.sr ?_
   refine WL.op rfl (.assign .bool) ?_
   refine WL.ns ?_
   refine W.seq ?_
   refine W.sr ?_
   refine WL.op rfl (.assign .i64) ?_
   refine WL.ns ?_
   refine W.block ?_
   obtain ⟨s8, hs9, hk10⟩ := bind_some hm
   clear hm
   refine W.loop (fun m (s : Bool × Int × api_Unit) => M.r41_down_loop2 p i m s.1 s.2.1 s.2.2 = some s8) (fun s => [(11, (tB.is s.1)), (12, ((tI .i64).is s.2.1)), (2, ((tL tapi_Step).is p)), (8, (Bp b 0)), (10, ((tI .i64).is i))]) (fun s => [(8, (Bx 8 true 27 (tapi_Unit.is s.2.2) b))]) _ (false, (0 : Int), x) hs9 ⟨Ent.q rfl, Ent.q rfl, Ent.q rfl, Ent.q rfl, Ent.q rfl, trivial⟩ ⟨rfl, rfl, trivial⟩ ?_
   rintro n11 ⟨found, k, x1⟩ hm
   try dsimp only at hm
   change W _ _ _ _ _ _ _ [(11, (tB.is found)), (12, ((tI .i64).is k)), (2, ((tL tapi_Step).is p)), (8, (Bp b 0)), (10, ((tI .i64).is i))] [(8, (Bx 8 true 27 (tapi_Unit.is x1) b))]
   cases n11 with
   | zero => rw [M.r41_down_loop2.eq_1] at hm; cases hm
   | succ n11 =>
    rw [M.r41_down_loop2.eq_2] at hm
    refine W.seq ?_
    obtain ⟨s12, hs13, hk14⟩ := bind_some hm
    clear hm
    refine W.join (fun s : Bool => s = s12) (fun s => [(33, (tB.is s)), (2, ((tL tapi_Step).is p)), (8, (Bp b 0)), (10, ((tI .i64).is i)), (11, (tB.is found)), (12, ((tI .i64).is k))]) (fun s => [(8, (Bx 8 true 27 (tapi_Unit.is x1) b))]) ?_ ?_
    ·rintro v hj36
     try dsimp only at hj36
     subst hj36
     have hm := hk14
     clear hk14
     try dsimp only at hm
     change W _ _ _ _ _ _ _ [(33, (tB.is v)), (2, ((tL tapi_Step).is p)), (8, (Bp b 0)), (10, ((tI .i64).is i)), (11, (tB.is found)), (12, ((tI .i64).is k))] [(8, (Bx 8 true 27 (tapi_Unit.is x1) b))]
     refine W.cond (.tmp rfl) (fun hc17 => ?_) (fun hc17 => ?_)
     ·have hp18 := hc17
      rw [if_pos hp18] at hm
      refine W.skip ?_
      refine WN.seq ?_
      refine W.seq ?_
      refine W.block ?_
      refine W.seq ?_
      obtain ⟨v1, hv19, hm⟩ := bind_some hm
      obtain ⟨v2, hv20, hm⟩ := bind_some hm
      rcases bcases (decide (v1.Kind = v2.Kind)) with hb21 | hb21
      ·have hp22 := of_decide_eq_true hb21
       rw [if_pos hp22] at hm
       obtain ⟨v3, hv23, hm⟩ := bind_some hm
       obtain ⟨v4, hv24, hm⟩ := bind_some hm
       refine W.draw [.c (Bp b 7), .c ((tL tapi_Unit).is x1.Kids), .c ((tI .i64).is k), .c (tapi_Unit.ptr v1), .c ((tI .i64).ptr v1.Kind), .c ((tI .i64).is v1.Kind), .c ((tL tapi_Step).is p), .c ((tI .i64).is i), .c (tapi_Step.ptr v2), .c ((tI .i64).ptr v2.Kind), .c ((tI .i64).is v2.Kind), .c (tB.is (decide (v1.Kind = v2.Kind))), .c (tB.is (decide (v1.Kind = v2.Kind))), .c (Bp b 7), .c ((tL tapi_Unit).is x1.Kids), .c ((tI .i64).is k), .c (tapi_Unit.ptr v3), .c (tS.ptr v3.Label), .c (tS.is v3.Label), .c ((tL tapi_Step).is p), .c ((tI .i64).is i), .c (tapi_Step.ptr v4), .c (tS.ptr v4.Label), .c (tS.is v4.Label), .c (tB.is (v3.Label == v4.Label)), .c (tB.is (v3.Label == v4.Label))] [([], [8]), ([0], []), ([], [12]), ([1, 2], []), ([3], []), ([4], []), ([], [2]), ([], [10]), ([6, 7], []), ([8], []), ([9], []), ([5, 10], []), ([11], []), ([12], [8]), ([12, 13], []), ([12], [12]), ([12, 14, 15], []), ([12, 16], []), ([12, 17], []), ([12], [2]), ([12], [10]), ([12, 19, 20], []), ([12, 21], []), ([12, 22], []), ([12, 18, 23], []), ([12, 24], [])] Try.mixed rfl rfl rfl rfl (by exact ⟨.inr (Op1.fieldAddrB (o := 0) Try.underlying27 rfl (fun w => ⟨0, Try.sizeOf25 w⟩) (.tmp rfl) rfl), .inr (Op1.loadBF 8 rfl ty25 fapi_Unit_5 rfl (.tmp rfl)), .inr (Op1.move (.tmp rfl)), .inr (Op1.idx hv19 Try.underlying25 Try.sizeOf27 (.tmp rfl) (.tmp rfl)), .inr (Op1.fieldAddr Try.underlying27 rfl (fun w => ⟨0, Try.sizeOf3 w⟩) fapi_Unit_1 (.tmp rfl)), .inr (Op1.load ty3 (.tmp rfl)), .inr (Op1.move (.tmp rfl)), .inr (Op1.move (.tmp rfl)), .inr (Op1.idx hv20 Try.underlying28 Try.sizeOf55 (.tmp rfl) (.tmp rfl)), .inr (Op1.fieldAddr Try.underlying55 rfl (fun w => ⟨0, Try.sizeOf3 w⟩) fapi_Step_0 (.tmp rfl)), .inr (Op1.load ty3 (.tmp rfl)), .inr (Op1.eqI (.tmp rfl) (.tmp rfl)), .inr (Op1.move (.tmp rfl)), .inr (dr rfl rfl rfl hb21 (Op1.fieldAddrB (o := 0) Try.underlying27 rfl (fun w => ⟨0, Try.sizeOf25 w⟩) (.tmp rfl) rfl)), .inr (dr rfl rfl rfl hb21 (Op1.loadBF 8 rfl ty25 fapi_Unit_5 rfl (.tmp rfl))), .inr (dr rfl rfl rfl hb21 (Op1.move (.tmp rfl))), .inr (dr rfl rfl rfl hb21 (Op1.idx hv23 Try.underlying25 Try.sizeOf27 (.tmp rfl) (.tmp rfl))), .inr (dr rfl rfl rfl hb21 (Op1.fieldAddr Try.underlying27 rfl (fun w => ⟨0, Try.sizeOf9 w⟩) fapi_Unit_2 (.tmp rfl))), .inr (dr rfl rfl rfl hb21 (Op1.load ty9 (.tmp rfl))), .inr (dr rfl rfl rfl hb21 (Op1.move (.tmp rfl))), .inr (dr rfl rfl rfl hb21 (Op1.move (.tmp rfl))), .inr (dr rfl rfl rfl hb21 (Op1.idx hv24 Try.underlying28 Try.sizeOf55 (.tmp rfl) (.tmp rfl))), .inr (dr rfl rfl rfl hb21 (Op1.fieldAddr Try.underlying55 rfl (fun w => ⟨0, Try.sizeOf9 w⟩) fapi_Step_1 (.tmp rfl))), .inr (dr rfl rfl rfl hb21 (Op1.load ty9 (.tmp rfl))), .inr (dr rfl rfl rfl hb21 (Op1.eqS (.tmp rfl) (.tmp rfl))), .inr (Op1.pickT (.tmp rfl) hb21 (.tmp rfl)), trivial⟩) ?_
       refine WN.seq ?_
       refine W.cond (.tmp rfl) (fun hc25 => ?_) (fun hc25 => ?_)
       ·have hp26 := hc25
        rw [if_pos hp26] at hm
        refine W.sr ?_
        refine WL.op rfl (.fieldAddrB (o := 0) Try.underlying27 rfl (fun w => ⟨0, Try.sizeOf25 w⟩) (.tmp rfl) rfl) ?_
        refine WL.op rfl (.loadBF 8 rfl ty25 fapi_Unit_5 rfl (.tmp rfl)) ?_
        refine WL.mv rfl rfl ?_
        obtain ⟨v5, hv27, hm⟩ := bind_some hm
        refine WL.op rfl (.idx hv27 Try.underlying25 Try.sizeOf27 (.tmp rfl) (.tmp rfl)) ?_
        refine WL.op rfl (.load ty27 (.tmp rfl)) ?_
        refine WL.opU (OpR.storeB (b := b) 8 Try.sizeOf27 (Cellable.is tapi_Unit v5) rfl (.tmp rfl) (.tmp rfl)) (fun _ => ?_)
        refine WL.nr1 ?_
        refine WL.op rfl (.assign .bool) ?_
        refine WL.nil ?_
        refine WN.block ?_
        refine WN.seq ?_
        refine W.region ?_
        refine WL.mv rfl rfl ?_
        obtain ⟨v6, hv28, hm⟩ := bind_some hm
        refine WL.op rfl (.addC hv28 (.tmp rfl) .i64) ?_
        refine WL.gv rfl rfl ?_
        refine WL.nil ?_
        exact WN.again n11 (true, v6, v5) (Nat.lt_succ_self n11) hm ⟨Ent.q rfl, Ent.q rfl, Ent.q rfl, Ent.q rfl, Ent.q rfl, trivial⟩ ⟨rfl, rfl, trivial⟩
       ·have hp26 := ne_of_false hc25
        rw [if_neg hp26] at hm
        refine W.skip ?_
        refine WN.block ?_
        refine WN.seq ?_
        refine W.region ?_
        refine WL.mv rfl rfl ?_
        obtain ⟨v7, hv29, hm⟩ := bind_some hm
        refine WL.op rfl (.addC hv29 (.tmp rfl) .i64) ?_
        refine WL.gv rfl rfl ?_
        refine WL.nil ?_
        exact WN.again n11 (found, v7, x1) (Nat.lt_succ_self n11) hm ⟨Ent.q rfl, Ent.q rfl, Ent.q rfl, Ent.q rfl, Ent.q rfl, trivial⟩ ⟨rfl, rfl, trivial⟩
      ·have hp22 := of_decide_eq_false hb21
       rw [if_neg hp22] at hm
       refine W.draw [.c (Bp b 7), .c ((tL tapi_Unit).is x1.Kids), .c ((tI .i64).is k), .c (tapi_Unit.ptr v1), .c ((tI .i64).ptr v1.Kind), .c ((tI .i64).is v1.Kind), .c ((tL tapi_Step).is p), .c ((tI .i64).is i), .c (tapi_Step.ptr v2), .c ((tI .i64).ptr v2.Kind), .c ((tI .i64).is v2.Kind), .c (tB.is (decide (v1.Kind = v2.Kind))), .c (tB.is (decide (v1.Kind = v2.Kind))), .c (Asn.eq undef), .c (Asn.eq undef), .c (Asn.eq undef), .c (Asn.eq undef), .c (Asn.eq undef), .c (Asn.eq undef), .c (Asn.eq undef), .c (Asn.eq undef), .c (Asn.eq undef), .c (Asn.eq undef), .c (Asn.eq undef), .c (Asn.eq undef), .c (tB.is false)] [([], [8]), ([0], []), ([], [12]), ([1, 2], []), ([3], []), ([4], []), ([], [2]), ([], [10]), ([6, 7], []), ([8], []), ([9], []), ([5, 10], []), ([11], []), ([12], [8]), ([12, 13], []), ([12], [12]), ([12, 14, 15], []), ([12, 16], []), ([12, 17], []), ([12], [2]), ([12], [10]), ([12, 19, 20], []), ([12, 21], []), ([12, 22], []), ([12, 18, 23], []), ([12, 24], [])] Try.mixed rfl rfl rfl rfl (by exact ⟨.inr (Op1.fieldAddrB (o := 0) Try.underlying27 rfl (fun w => ⟨0, Try.sizeOf25 w⟩) (.tmp rfl) rfl), .inr (Op1.loadBF 8 rfl ty25 fapi_Unit_5 rfl (.tmp rfl)), .inr (Op1.move (.tmp rfl)), .inr (Op1.idx hv19 Try.underlying25 Try.sizeOf27 (.tmp rfl) (.tmp rfl)), .inr (Op1.fieldAddr Try.underlying27 rfl (fun w => ⟨0, Try.sizeOf3 w⟩) fapi_Unit_1 (.tmp rfl)), .inr (Op1.load ty3 (.tmp rfl)), .inr (Op1.move (.tmp rfl)), .inr (Op1.move (.tmp rfl)), .inr (Op1.idx hv20 Try.underlying28 Try.sizeOf55 (.tmp rfl) (.tmp rfl)), .inr (Op1.fieldAddr Try.underlying55 rfl (fun w => ⟨0, Try.sizeOf3 w⟩) fapi_Step_0 (.tmp rfl)), .inr (Op1.load ty3 (.tmp rfl)), .inr (Op1.eqI (.tmp rfl) (.tmp rfl)), .inr (Op1.move (.tmp rfl)), .inr (dp rfl rfl rfl hb21), .inr (dp rfl rfl rfl hb21), .inr (dp rfl rfl rfl hb21), .inr (dp rfl rfl rfl hb21), .inr (dp rfl rfl rfl hb21), .inr (dp rfl rfl rfl hb21), .inr (dp rfl rfl rfl hb21), .inr (dp rfl rfl rfl hb21), .inr (dp rfl rfl rfl hb21), .inr (dp rfl rfl rfl hb21), .inr (dp rfl rfl rfl hb21), .inr (dp rfl rfl rfl hb21), .inr (Op1.pickF (.tmp rfl) hb21 .bool), trivial⟩) ?_
       refine WN.seq ?_
       refine W.condF (.tmp rfl) ?_
       refine W.skip ?_
       refine WN.block ?_
       refine WN.seq ?_
       refine W.region ?_
       refine WL.mv rfl rfl ?_
       obtain ⟨v8, hv30, hm⟩ := bind_some hm
       refine WL.op rfl (.addC hv30 (.tmp rfl) .i64) ?_
       refine WL.gv rfl rfl ?_
       refine WL.nil ?_
       exact WN.again n11 (found, v8, x1) (Nat.lt_succ_self n11) hm ⟨Ent.q rfl, Ent.q rfl, Ent.q rfl, Ent.q rfl, Ent.q rfl, trivial⟩ ⟨rfl, rfl, trivial⟩
     ·have hp18 := ne_of_false hc17
      rw [if_neg hp18] at hm
      refine W.exit rfl ?_
      have hr31 := Option.some.inj hm
      clear hm
      subst hr31
      have hm := hk10
      try dsimp only at hm
      refine WN.seq ?_
      refine W.sr ?_
      refine WL.mv rfl rfl ?_
      refine WL.op rfl (.notB (.tmp rfl)) ?_
      refine WL.ns ?_
      refine W.cond (.tmp rfl) (fun hc32 => ?_) (fun hc32 => ?_)
      ·have hp33 := not_pos hc32
       rw [if_pos hp33] at hm
       refine W.sr ?_
       refine WL.op rfl (.assign (.nil (t := tapi_Id))) ?_
       refine WL.op rfl (.assign .i64) ?_
       refine WL.ns ?_
       have hr34 := Option.some.inj hm
       clear hm
       subst hr34
       have hm := hk4
       try dsimp only at hm
       cases hm
       exact W.ret2 () rfl rfl (.tmp rfl) (.tmp rfl) trivial
      ·have hp33 := not_neg hc32
       rw [if_neg hp33] at hm
       refine W.skip ?_
       refine WN.block ?_
       refine WN.seq ?_
       refine W.region ?_
       refine WL.mv rfl rfl ?_
       obtain ⟨v9, hv35, hm⟩ := bind_some hm
       refine WL.op rfl (.addC hv35 (.tmp rfl) .i64) ?_
       refine WL.gv rfl rfl ?_
       refine WL.nil ?_
       exact WN.again n5 (v9, x1) (Nat.lt_succ_self n5) hm ⟨Ent.q rfl, Ent.q rfl, Ent.q rfl, trivial⟩ ⟨rfl, rfl, trivial⟩
    ·have hm := hs13
     clear hs13
     refine W.region ?_
     refine WL.mv rfl rfl ?_
     refine WL.op rfl (.fieldAddrB (o := 0) Try.underlying27 rfl (fun w => ⟨0, Try.sizeOf25 w⟩) (.tmp rfl) rfl) ?_
     refine WL.op rfl (.loadBF 8 rfl ty25 fapi_Unit_5 rfl (.tmp rfl)) ?_
     refine WL.op rfl (.lenL Try.underlying25 (.tmp rfl)) ?_
     refine WL.op rfl (.ltI (.tmp rfl) (.tmp rfl)) ?_
     refine WL.mv rfl rfl ?_
     rcases bcases (decide (k < (x1.Kids.length : Int))) with hb15 | hb15
     ·have hp16 := of_decide_eq_true hb15
      rw [if_pos hp16] at hm
      refine WL.run rfl rfl rfl rfl hb15 rfl rfl (Op1.move (.tmp rfl)) ?_
      refine WL.run rfl rfl rfl rfl hb15 rfl rfl (Op1.notB (.tmp rfl)) ?_
      refine WL.op rfl (.pickT (.tmp rfl) hb15 (.tmp rfl)) ?_
      refine WL.nil ?_
      exact WN.meet (!found) (Option.some.inj hm) ⟨Ent.q rfl, Ent.q rfl, Ent.q rfl, Ent.q rfl, Ent.q rfl, Ent.q rfl, trivial⟩ ⟨rfl, rfl, trivial⟩
     ·have hp16 := of_decide_eq_false hb15
      rw [if_neg hp16] at hm
      iterate 2 refine WL.pass rfl rfl rfl rfl hb15 rfl rfl ?_
      refine WL.op rfl (.pickF (.tmp rfl) hb15 .bool) ?_
      refine WL.nil ?_
      exact WN.meet false (Option.some.inj hm) ⟨Ent.q rfl, Ent.q rfl, Ent.q rfl, Ent.q rfl, Ent.q rfl, Ent.q rfl, trivial⟩ ⟨rfl, rfl, trivial⟩
  ·have hp7 := of_decide_eq_false hc6
   rw [if_neg hp7] at hm
   refine W.exit rfl ?_
   have hr37 := Option.some.inj hm
   clear hm
   subst hr37
   have hm := hk4
   try dsimp only at hm
   refine WN.seq ?_
   refine W.sr ?_
   refine WL.op rfl (.fieldAddrB (o := 0) Try.underlying27 rfl (fun w => ⟨2, Try.sizeOf23 w⟩) (.tmp rfl) rfl) ?_
   refine WL.op rfl (.loadBF 8 rfl ty23 fapi_Unit_0 rfl (.tmp rfl)) ?_
   refine WL.op rfl (.buildSlice (n := 1) (ys := [(0, x.Id)]) (z := zapi_Id) (xs := [x.Id]) Try.underlying31 el23 ze23 ⟨rfl, (.tmp rfl), trivial⟩ (by simp) (by decide) rfl) ?_
   refine WL.gv rfl rfl ?_
   refine WL.op rfl (.assign .i64) ?_
   refine WL.ns ?_
   cases hm
   exact W.ret2 () rfl rfl (.tmp rfl) (.tmp rfl) trivial

theorem r07_book_spec (s0_ : api_Step) (r : Bool) (hm : M.r07_book s0_ = some r) : FSpec Try.prog 80 [(tapi_Step.is s0_)] (tB.is r) := by
 unfold M.r07_book at hm
 refine FSpec.of Try.func80 rfl rfl rfl (fun g0 => ?_)
 refine W.sr ?_
 refine WL.op rfl (.box (.tmp rfl)) ?_
 refine WL.op rfl (.assign .bool) ?_
 refine WL.nr ?_
 refine WL.op rfl (.fieldAddr Try.underlying55 rfl (fun w => ⟨0, Try.sizeOf3 w⟩) fapi_Step_0 (.tmp rfl)) ?_
 refine WL.op rfl (.load ty3 (.tmp rfl)) ?_
 refine WL.op rfl (.eqI (.tmp rfl) .i64) ?_
 refine WL.mv rfl rfl ?_
 rcases bcases (decide (s0_.Kind = (0 : Int))) with hb1 | hb1
 ·have hp2 := of_decide_eq_true hb1
  rw [if_pos hp2] at hm
  refine WL.run rfl rfl rfl rfl hb1 rfl rfl (Op1.fieldAddr Try.underlying55 rfl (fun w => ⟨0, Try.sizeOf9 w⟩) fapi_Step_1 (.tmp rfl)) ?_
  refine WL.run rfl rfl rfl rfl hb1 rfl rfl (Op1.load ty9 (.tmp rfl)) ?_
  refine WL.run rfl rfl rfl rfl hb1 rfl rfl (Op1.eqS (.tmp rfl) (.str rfl (by decide))) ?_
  refine WL.op rfl (.pickT (.tmp rfl) hb1 (.tmp rfl)) ?_
  refine WL.gv rfl rfl ?_
  refine WL.ns ?_
  cases hm
  exact W.ret1 () rfl (.tmp rfl) trivial
 ·have hp2 := of_decide_eq_false hb1
  rw [if_neg hp2] at hm
  iterate 3 refine WL.pass rfl rfl rfl rfl hb1 rfl rfl ?_
  refine WL.op rfl (.pickF (.tmp rfl) hb1 .bool) ?_
  refine WL.gv rfl rfl ?_
  refine WL.ns ?_
  cases hm
  exact W.ret1 () rfl (.tmp rfl) trivial

theorem r07_May_spec (n : Nat) (p : List api_Step) (r : Bool) (hm : M.r07_May n p = some r) : FSpec Try.prog 79 [((tL tapi_Step).is p)] (tB.is r) := by
 unfold M.r07_May at hm
 refine FSpec.of Try.func79 rfl rfl rfl (fun g0 => ?_)
 refine W.sr ?_
 refine WL.op rfl (.assign .bool) ?_
 refine WL.ns ?_
 refine W.seq ?_
 refine W.sr ?_
 refine WL.mv rfl rfl ?_
 refine WL.op rfl (.lenL Try.underlying28 (.tmp rfl)) ?_
 refine WL.op rfl (.gtI (.tmp rfl) .i64) ?_
 refine WL.ns ?_
 refine W.cond (.tmp rfl) (fun hc1 => ?_) (fun hc1 => ?_)
 ·have hp2 := of_decide_eq_true hc1
  rw [if_pos hp2] at hm
  refine W.sr ?_
  refine WL.op rfl (.assign .bool) ?_
  refine WL.ns ?_
  cases hm
  exact W.ret1 () rfl (.tmp rfl) trivial
 ·have hp2 := of_decide_eq_false hc1
  rw [if_neg hp2] at hm
  refine W.skip ?_
  refine WN.seq ?_
  refine W.seq ?_
  refine W.sr ?_
  refine WL.op rfl (.assign .i64) ?_
  refine WL.ns ?_
  refine W.block ?_
  obtain ⟨s3, hs4, hk5⟩ := bind_some hm
  clear hm
  refine W.loop (fun m (s : Int) => M.r07_May_loop1 p m s = some s3) (fun s => [(3, ((tI .i64).is s)), (0, ((tL tapi_Step).is p))]) (fun s => []) _ (0 : Int) hs4 ⟨Ent.q rfl, Ent.q rfl, trivial⟩ trivial ?_
  rintro n6 i hm
  try dsimp only at hm
  change W _ _ _ _ _ _ _ [(3, ((tI .i64).is i)), (0, ((tL tapi_Step).is p))] []
  cases n6 with
  | zero => rw [M.r07_May_loop1.eq_1] at hm; cases hm
  | succ n6 =>
   rw [M.r07_May_loop1.eq_2] at hm
   refine W.seq ?_
   refine W.sr ?_
   refine WL.mv rfl rfl ?_
   refine WL.mv rfl rfl ?_
   refine WL.op rfl (.lenL Try.underlying28 (.tmp rfl)) ?_
   refine WL.op rfl (.ltI (.tmp rfl) (.tmp rfl)) ?_
   refine WL.ns ?_
   refine W.cond (.tmp rfl) (fun hc7 => ?_) (fun hc7 => ?_)
   ·have hp8 := of_decide_eq_true hc7
    rw [if_pos hp8] at hm
    refine W.skip ?_
    refine WN.seq ?_
    refine W.seq ?_
    refine W.block ?_
    refine W.seq ?_
    obtain ⟨s9, hs10, hk11⟩ := bind_some hm
    clear hm
    refine W.join (fun s : Bool => s = s9) (fun s => [(21, (tB.is s)), (0, ((tL tapi_Step).is p)), (3, ((tI .i64).is i))]) (fun s => []) ?_ ?_
    ·rintro v hj33
     try dsimp only at hj33
     subst hj33
     have hm := hk11
     clear hk11
     try dsimp only at hm
     change W _ _ _ _ _ _ _ [(21, (tB.is v)), (0, ((tL tapi_Step).is p)), (3, ((tI .i64).is i))] []
     refine W.cond (.tmp rfl) (fun hc16 => ?_) (fun hc16 => ?_)
     ·have hp17 := hc16
      rw [if_pos hp17] at hm
      refine W.exit rfl ?_
      refine WN.seq ?_
      refine W.region ?_
      refine WL.mv rfl rfl ?_
      refine WL.lenL (s := 0) (.tmp rfl) fun hl18 => ?_
      refine WL.op rfl (.addI1 (.tmp rfl) .i64 hp8 hl18) ?_
      refine WL.gv rfl rfl ?_
      refine WL.nil ?_
      exact WN.again n6 (i + 1) (Nat.lt_succ_self n6) hm ⟨Ent.q rfl, Ent.q rfl, trivial⟩ trivial
     ·have hp17 := ne_of_false hc16
      rw [if_neg hp17] at hm
      refine W.skip ?_
      refine WN.seq ?_
      refine W.sr ?_
      refine WL.mv rfl rfl ?_
      refine WL.mv rfl rfl ?_
      obtain ⟨v2, hv19, hm⟩ := bind_some hm
      refine WL.op rfl (.idx hv19 Try.underlying28 Try.sizeOf55 (.tmp rfl) (.tmp rfl)) ?_
      refine WL.op rfl (.fieldAddr Try.underlying55 rfl (fun w => ⟨0, Try.sizeOf3 w⟩) fapi_Step_0 (.tmp rfl)) ?_
      refine WL.op rfl (.load ty3 (.tmp rfl)) ?_
      refine WL.op rfl (.ltI (.tmp rfl) .i64) ?_
      refine WL.mv rfl rfl ?_
      rcases bcases (decide (v2.Kind < (1 : Int))) with hb20 | hb20
      ·have hp21 := of_decide_eq_true hb20
       rw [if_pos hp21] at hm
       iterate 6 refine WL.pass rfl rfl rfl rfl hb20 rfl rfl ?_
       refine WL.op rfl (.pickT (.tmp rfl) hb20 .bool) ?_
       refine WL.mv rfl rfl ?_
       iterate 7 refine WL.pass rfl rfl rfl rfl rfl rfl rfl ?_
       refine WL.op rfl (.pickT (.tmp rfl) rfl .bool) ?_
       refine WL.ns ?_
       refine W.condT (.tmp rfl) ?_
       refine W.sr ?_
       refine WL.op rfl (.assign .bool) ?_
       refine WL.ns ?_
       have hr22 := Option.some.inj hm
       clear hm
       subst hr22
       have hm := hk5
       try dsimp only at hm
       cases hm
       exact W.ret1 () rfl (.tmp rfl) trivial
      ·have hp21 := of_decide_eq_false hb20
       rw [if_neg hp21] at hm
       refine WL.run rfl rfl rfl rfl hb20 rfl rfl (Op1.move (.tmp rfl)) ?_
       refine WL.run rfl rfl rfl rfl hb20 rfl rfl (Op1.move (.tmp rfl)) ?_
       obtain ⟨v3, hv23, hm⟩ := bind_some hm
       refine WL.run rfl rfl rfl rfl hb20 rfl rfl (Op1.idx hv23 Try.underlying28 Try.sizeOf55 (.tmp rfl) (.tmp rfl)) ?_
       refine WL.run rfl rfl rfl rfl hb20 rfl rfl (Op1.fieldAddr Try.underlying55 rfl (fun w => ⟨0, Try.sizeOf3 w⟩) fapi_Step_0 (.tmp rfl)) ?_
       refine WL.run rfl rfl rfl rfl hb20 rfl rfl (Op1.load ty3 (.tmp rfl)) ?_
       refine WL.run rfl rfl rfl rfl hb20 rfl rfl (Op1.gtI (.tmp rfl) .i64) ?_
       refine WL.op rfl (.pickF (.tmp rfl) hb20 (.tmp rfl)) ?_
       refine WL.mv rfl rfl ?_
       rcases bcases (decide ((7 : Int) < v3.Kind)) with hb24 | hb24
       ·have hp25 := of_decide_eq_true hb24
        rw [if_pos hp25] at hm
        iterate 7 refine WL.pass rfl rfl rfl rfl hb24 rfl rfl ?_
        refine WL.op rfl (.pickT (.tmp rfl) hb24 .bool) ?_
        refine WL.ns ?_
        refine W.condT (.tmp rfl) ?_
        refine W.sr ?_
        refine WL.op rfl (.assign .bool) ?_
        refine WL.ns ?_
        have hr26 := Option.some.inj hm
        clear hm
        subst hr26
        have hm := hk5
        try dsimp only at hm
        cases hm
        exact W.ret1 () rfl (.tmp rfl) trivial
       ·have hp25 := of_decide_eq_false hb24
        rw [if_neg hp25] at hm
        refine WL.run rfl rfl rfl rfl hb24 rfl rfl (Op1.move (.tmp rfl)) ?_
        refine WL.run rfl rfl rfl rfl hb24 rfl rfl (Op1.move (.tmp rfl)) ?_
        obtain ⟨v4, hv27, hm⟩ := bind_some hm
        refine WL.run rfl rfl rfl rfl hb24 rfl rfl (Op1.idx hv27 Try.underlying28 Try.sizeOf55 (.tmp rfl) (.tmp rfl)) ?_
        refine WL.run rfl rfl rfl rfl hb24 rfl rfl (Op1.fieldAddr Try.underlying55 rfl (fun w => ⟨0, Try.sizeOf9 w⟩) fapi_Step_1 (.tmp rfl)) ?_
        refine WL.run rfl rfl rfl rfl hb24 rfl rfl (Op1.load ty9 (.tmp rfl)) ?_
        obtain ⟨may, hv28, hm⟩ := bind_some hm
        refine WL.run rfl rfl rfl rfl hb24 rfl rfl (Op1.call Try.call50 (r03_May_spec _ _ _ hv28) ⟨(.tmp rfl), trivial⟩) ?_
        refine WL.run rfl rfl rfl rfl hb24 rfl rfl (Op1.notB (.tmp rfl)) ?_
        refine WL.op rfl (.pickF (.tmp rfl) hb24 (.tmp rfl)) ?_
        refine WL.ns ?_
        refine W.cond (.tmp rfl) (fun hc29 => ?_) (fun hc29 => ?_)
        ·have hp30 := not_pos hc29
         rw [if_pos hp30] at hm
         refine W.sr ?_
         refine WL.op rfl (.assign .bool) ?_
         refine WL.ns ?_
         have hr31 := Option.some.inj hm
         clear hm
         subst hr31
         have hm := hk5
         try dsimp only at hm
         cases hm
         exact W.ret1 () rfl (.tmp rfl) trivial
        ·have hp30 := not_neg hc29
         rw [if_neg hp30] at hm
         refine W.skip ?_
         refine WN.block ?_
         refine WN.seq ?_
         refine W.region ?_
         refine WL.mv rfl rfl ?_
         refine WL.lenL (s := 0) (.tmp rfl) fun hl32 => ?_
         refine WL.op rfl (.addI1 (.tmp rfl) .i64 hp8 hl32) ?_
         refine WL.gv rfl rfl ?_
         refine WL.nil ?_
         exact WN.again n6 (i + 1) (Nat.lt_succ_self n6) hm ⟨Ent.q rfl, Ent.q rfl, trivial⟩ trivial
    ·have hm := hs10
     clear hs10
     refine W.region ?_
     refine WL.mv rfl rfl ?_
     refine WL.op rfl (.eqI (.tmp rfl) .i64) ?_
     refine WL.mv rfl rfl ?_
     rcases bcases (decide (i = (0 : Int))) with hb12 | hb12
     ·have hp13 := of_decide_eq_true hb12
      rw [if_pos hp13] at hm
      refine WL.run rfl rfl rfl rfl hb12 rfl rfl (Op1.move (.tmp rfl)) ?_
      refine WL.run rfl rfl rfl rfl hb12 rfl rfl (Op1.move (.tmp rfl)) ?_
      obtain ⟨v1, hv14, hm⟩ := bind_some hm
      refine WL.run rfl rfl rfl rfl hb12 rfl rfl (Op1.idx hv14 Try.underlying28 Try.sizeOf55 (.tmp rfl) (.tmp rfl)) ?_
      refine WL.run rfl rfl rfl rfl hb12 rfl rfl (Op1.load ty55 (.tmp rfl)) ?_
      obtain ⟨book, hv15, hm⟩ := bind_some hm
      refine WL.run rfl rfl rfl rfl hb12 rfl rfl (Op1.call Try.call80 (r07_book_spec _ _ hv15) ⟨(.tmp rfl), trivial⟩) ?_
      refine WL.op rfl (.pickT (.tmp rfl) hb12 (.tmp rfl)) ?_
      refine WL.nil ?_
      exact WN.meet book (Option.some.inj hm) ⟨Ent.q rfl, Ent.q rfl, Ent.q rfl, trivial⟩ trivial
     ·have hp13 := of_decide_eq_false hb12
      rw [if_neg hp13] at hm
      iterate 5 refine WL.pass rfl rfl rfl rfl hb12 rfl rfl ?_
      refine WL.op rfl (.pickF (.tmp rfl) hb12 .bool) ?_
      refine WL.nil ?_
      exact WN.meet false (Option.some.inj hm) ⟨Ent.q rfl, Ent.q rfl, Ent.q rfl, trivial⟩ trivial
   ·have hp8 := of_decide_eq_false hc7
    rw [if_neg hp8] at hm
    refine W.exit rfl ?_
    have hr34 := Option.some.inj hm
    clear hm
    subst hr34
    have hm := hk5
    try dsimp only at hm
    refine WN.seq ?_
    refine W.sr ?_
    refine WL.op rfl (.assign .bool) ?_
    refine WL.ns ?_
    cases hm
    exact W.ret1 () rfl (.tmp rfl) trivial

theorem r07_Every_spec : ∀ (n : Nat) (u : api_Unit) (r : (List api_Unit)), M.r07_Every n u = some r → FSpec Try.prog 81 [(tapi_Unit.is u)] ((tL tapi_Unit).is r) := by
 intro n
 induction n with
 | zero => intro u r hm; cases hm
 | succ n ih =>
  intro u r hm
  rw [M.r07_Every.eq_2] at hm
  refine FSpec.of Try.func81 rfl rfl rfl (fun g0 => ?_)
  refine W.sr ?_
  refine WL.op rfl (.box (.tmp rfl)) ?_
  refine WL.op rfl (.assign (.nil (t := tapi_Unit))) ?_
  refine WL.nr ?_
  refine WL.op rfl (.load ty27 (.tmp rfl)) ?_
  refine WL.opR rfl (OpR.buildSlice (n := 1) (ys := [(0, u)]) (z := zapi_Unit) (xs := [u]) 6 Try.underlying25 el27 ze27 ⟨rfl, (.tmp rfl), trivial⟩ (by simp) (by decide) rfl) (fun k => ?_)
  refine WL.gv rfl rfl ?_
  refine WL.ns ?_
  refine W.seq ?_
  refine W.sr ?_
  refine WL.op rfl (.assign .i64) ?_
  refine WL.ns ?_
  refine W.block ?_
  obtain ⟨s1, hs2, hk3⟩ := bind_some hm
  clear hm
  refine W.loop (fun m (s : ((List api_Unit) × Int) × Tok) => M.r07_Every_loop1 u (M.r07_Every n) m s.1.1 s.1.2 = some s1) (fun s => [(3, (tO tapi_Unit s.2 s.1.1)), (4, ((tI .i64).is s.1.2)), (1, (tapi_Unit.ptr u))]) (fun s => [(6, Dec.Own tapi_Unit 27 s.2 s.1.1.length)]) _ (([u], (0 : Int)), k) hs2 ⟨Ent.q rfl, Ent.q rfl, Ent.q rfl, trivial⟩ ⟨rfl, rfl, trivial⟩ ?_
  rintro n4 ⟨⟨out, i⟩, k1⟩ hm
  try dsimp only at hm
  change W _ _ _ _ _ _ _ [(3, (tO tapi_Unit k1 out)), (4, ((tI .i64).is i)), (1, (tapi_Unit.ptr u))] [(6, Dec.Own tapi_Unit 27 k1 out.length)]
  cases n4 with
  | zero => rw [M.r07_Every_loop1.eq_1] at hm; cases hm
  | succ n4 =>
   rw [M.r07_Every_loop1.eq_2] at hm
   refine W.seq ?_
   refine W.sr ?_
   refine WL.mv rfl rfl ?_
   refine WL.op rfl (.fieldAddr Try.underlying27 rfl (fun w => ⟨0, Try.sizeOf25 w⟩) fapi_Unit_5 (.tmp rfl)) ?_
   refine WL.op rfl (.load ty25 (.tmp rfl)) ?_
   refine WL.op rfl (.lenL Try.underlying25 (.tmp rfl)) ?_
   refine WL.op rfl (.ltI (.tmp rfl) (.tmp rfl)) ?_
   refine WL.ns ?_
   refine W.cond (.tmp rfl) (fun hc5 => ?_) (fun hc5 => ?_)
   ·have hp6 := of_decide_eq_true hc5
    rw [if_pos hp6] at hm
    refine W.skip ?_
    refine WN.seq ?_
    refine W.seq ?_
    refine W.block ?_
    refine W.region ?_
    refine WL.mv rfl rfl ?_
    refine WL.op rfl (.fieldAddr Try.underlying27 rfl (fun w => ⟨0, Try.sizeOf25 w⟩) fapi_Unit_5 (.tmp rfl)) ?_
    refine WL.op rfl (.load ty25 (.tmp rfl)) ?_
    refine WL.mv rfl rfl ?_
    obtain ⟨v, hv7, hm⟩ := bind_some hm
    refine WL.op rfl (.idx hv7 Try.underlying25 Try.sizeOf27 (.tmp rfl) (.tmp rfl)) ?_
    refine WL.op rfl (.load ty27 (.tmp rfl)) ?_
    obtain ⟨every, hv8, hm⟩ := bind_some hm
    refine WL.op rfl (.call Try.call81 (ih _ _ hv8) ⟨(.tmp rfl), trivial⟩) ?_
    obtain ⟨out1, hv9, hm⟩ := bind_some hm
    refine WL.opR rfl (OpR.appC (key := 6) hv9 Try.underlying25 el27 (.tmp rfl) (.tmp rfl) rfl) (fun k2 => ?_)
    refine WL.gv rfl rfl ?_
    refine WL.nil ?_
    refine WN.block ?_
    refine WN.seq ?_
    refine W.region ?_
    refine WL.mv rfl rfl ?_
    refine WL.lenL (s := 9) (.tmp rfl) fun hl10 => ?_
    refine WL.op rfl (.addI1 (.tmp rfl) .i64 hp6 hl10) ?_
    refine WL.gv rfl rfl ?_
    refine WL.nil ?_
    exact WN.again n4 ((out1, i + 1), k2) (Nat.lt_succ_self n4) hm ⟨Ent.q rfl, Ent.q rfl, Ent.q rfl, trivial⟩ ⟨rfl, rfl, trivial⟩
   ·have hp6 := of_decide_eq_false hc5
    rw [if_neg hp6] at hm
    refine W.exit rfl ?_
    have hr11 := Option.some.inj hm
    clear hm
    subst hr11
    have hm := hk3
    try dsimp only at hm
    refine WN.seq ?_
    refine W.sr ?_
    refine WL.mv rfl rfl ?_
    refine WL.gv rfl rfl ?_
    refine WL.ns ?_
    cases hm
    exact W.ret1 () rfl (Opd.own (.tmp rfl)) trivial

theorem r07_at_spec (u : api_Unit) (s0_ : api_Step) (r : Bool) (hm : M.r07_at u s0_ = some r) : FSpec Try.prog 82 [(tapi_Unit.is u), (tapi_Step.is s0_)] (tB.is r) := by
 unfold M.r07_at at hm
 refine FSpec.of Try.func82 rfl rfl rfl (fun g0 => ?_)
 refine W.sr ?_
 refine WL.op rfl (.box (.tmp rfl)) ?_
 refine WL.op rfl (.box (.tmp rfl)) ?_
 refine WL.op rfl (.assign .bool) ?_
 refine WL.nr ?_
 refine WL.op rfl (.fieldAddr Try.underlying27 rfl (fun w => ⟨0, Try.sizeOf3 w⟩) fapi_Unit_1 (.tmp rfl)) ?_
 refine WL.op rfl (.load ty3 (.tmp rfl)) ?_
 refine WL.op rfl (.fieldAddr Try.underlying55 rfl (fun w => ⟨0, Try.sizeOf3 w⟩) fapi_Step_0 (.tmp rfl)) ?_
 refine WL.op rfl (.load ty3 (.tmp rfl)) ?_
 refine WL.op rfl (.eqI (.tmp rfl) (.tmp rfl)) ?_
 refine WL.mv rfl rfl ?_
 rcases bcases (decide (u.Kind = s0_.Kind)) with hb1 | hb1
 ·have hp2 := of_decide_eq_true hb1
  rw [if_pos hp2] at hm
  refine WL.run rfl rfl rfl rfl hb1 rfl rfl (Op1.fieldAddr Try.underlying27 rfl (fun w => ⟨0, Try.sizeOf9 w⟩) fapi_Unit_2 (.tmp rfl)) ?_
  refine WL.run rfl rfl rfl rfl hb1 rfl rfl (Op1.load ty9 (.tmp rfl)) ?_
  refine WL.run rfl rfl rfl rfl hb1 rfl rfl (Op1.fieldAddr Try.underlying55 rfl (fun w => ⟨0, Try.sizeOf9 w⟩) fapi_Step_1 (.tmp rfl)) ?_
  refine WL.run rfl rfl rfl rfl hb1 rfl rfl (Op1.load ty9 (.tmp rfl)) ?_
  refine WL.run rfl rfl rfl rfl hb1 rfl rfl (Op1.eqS (.tmp rfl) (.tmp rfl)) ?_
  refine WL.op rfl (.pickT (.tmp rfl) hb1 (.tmp rfl)) ?_
  refine WL.gv rfl rfl ?_
  refine WL.ns ?_
  cases hm
  exact W.ret1 () rfl (.tmp rfl) trivial
 ·have hp2 := of_decide_eq_false hb1
  rw [if_neg hp2] at hm
  iterate 5 refine WL.pass rfl rfl rfl rfl hb1 rfl rfl ?_
  refine WL.op rfl (.pickF (.tmp rfl) hb1 .bool) ?_
  refine WL.gv rfl rfl ?_
  refine WL.ns ?_
  cases hm
  exact W.ret1 () rfl (.tmp rfl) trivial

theorem r07_Units_spec (n : Nat) (u : api_Unit) (p : List api_Step) (r : (List api_Unit)) (hm : M.r07_Units n u p = some r) : FSpec Try.prog 56 [(tapi_Unit.is u), ((tL tapi_Step).is p)] ((tL tapi_Unit).is r) := by
 unfold M.r07_Units at hm
 refine FSpec.of Try.func56 rfl rfl rfl (fun g0 => ?_)
 refine W.sr ?_
 refine WL.op rfl (.box (.tmp rfl)) ?_
 refine WL.op rfl (.assign (.nil (t := tapi_Unit))) ?_
 refine WL.ns ?_
 refine W.seq ?_
 refine W.sr ?_
 refine WL.mv rfl rfl ?_
 obtain ⟨may, hv1, hm⟩ := bind_some hm
 refine WL.op rfl (.call Try.call79 (r07_May_spec _ _ _ hv1) ⟨(.tmp rfl), trivial⟩) ?_
 refine WL.op rfl (.notB (.tmp rfl)) ?_
 refine WL.ns ?_
 refine W.cond (.tmp rfl) (fun hc2 => ?_) (fun hc2 => ?_)
 ·have hp3 := not_pos hc2
  rw [if_pos hp3] at hm
  refine W.sr ?_
  refine WL.op rfl (.assign (.nil (t := tapi_Unit))) ?_
  refine WL.ns ?_
  cases hm
  exact W.ret1 () rfl (.tmp rfl) trivial
 ·have hp3 := not_neg hc2
  rw [if_neg hp3] at hm
  refine W.skip ?_
  refine WN.seq ?_
  refine W.seq ?_
  refine W.sr ?_
  refine WL.mv rfl rfl ?_
  refine WL.op rfl (.lenL Try.underlying28 (.tmp rfl)) ?_
  refine WL.op rfl (.eqI (.tmp rfl) .i64) ?_
  refine WL.ns ?_
  refine W.cond (.tmp rfl) (fun hc4 => ?_) (fun hc4 => ?_)
  ·have hp5 := of_decide_eq_true hc4
   rw [if_pos hp5] at hm
   refine W.sr ?_
   refine WL.op rfl (.load ty27 (.tmp rfl)) ?_
   refine WL.op rfl (.buildSlice (n := 1) (ys := [(0, u)]) (z := zapi_Unit) (xs := [u]) Try.underlying25 el27 ze27 ⟨rfl, (.tmp rfl), trivial⟩ (by simp) (by decide) rfl) ?_
   refine WL.gv rfl rfl ?_
   refine WL.ns ?_
   cases hm
   exact W.ret1 () rfl (.tmp rfl) trivial
  ·have hp5 := of_decide_eq_false hc4
   rw [if_neg hp5] at hm
   refine W.skip ?_
   refine WN.seq ?_
   refine W.sr ?_
   refine WL.opR rfl (OpR.buildSlice (n := 0) (ys := []) (z := zapi_Unit) (xs := ([] : List api_Unit)) 20 Try.underlying25 el27 ze27 trivial (by simp) (by decide) rfl) (fun k => ?_)
   refine WL.gv rfl rfl ?_
   refine WL.ns ?_
   obtain ⟨s6, hs7, hk8⟩ := bind_some hm
   clear hm
   refine W.join (fun s : ((List api_Unit)) × Tok => s.1 = s6) (fun s => [(5, (tO tapi_Unit s.2 s.1)), (1, ((tL tapi_Step).is p))]) (fun s => [(20, Dec.Own tapi_Unit 27 s.2 s.1.length)]) ?_ ?_
   ·rintro ⟨now, k1⟩ hj66
    try dsimp only at hj66
    subst hj66
    have hm := hk8
    clear hk8
    try dsimp only at hm
    change W _ _ _ _ _ _ _ [(5, (tO tapi_Unit k1 now)), (1, ((tL tapi_Step).is p))] [(20, Dec.Own tapi_Unit 27 k1 now.length)]
    refine W.seq ?_
    refine W.sr ?_
    refine WL.op rfl (.assign .i64) ?_
    refine WL.ns ?_
    refine W.block ?_
    obtain ⟨s31, hs32, hk33⟩ := bind_some hm
    clear hm
    refine W.loop (fun m (s : (List api_Unit) × Int) => M.r07_Units_loop2 p m s.1 s.2 = some s31) (fun s => [(5, ((tL tapi_Unit).is s.1)), (8, ((tI .i64).is s.2)), (1, ((tL tapi_Step).is p))]) (fun s => []) _ (now, (1 : Int)) hs32 ⟨Ent.o rfl, Ent.q rfl, Ent.q rfl, trivial⟩ trivial ?_
    rintro n34 ⟨now2, k5⟩ hm
    try dsimp only at hm
    change W _ _ _ _ _ _ _ [(5, ((tL tapi_Unit).is now2)), (8, ((tI .i64).is k5)), (1, ((tL tapi_Step).is p))] []
    cases n34 with
    | zero => rw [M.r07_Units_loop2.eq_1] at hm; cases hm
    | succ n34 =>
     rw [M.r07_Units_loop2.eq_2] at hm
     refine W.seq ?_
     refine W.sr ?_
     refine WL.mv rfl rfl ?_
     refine WL.mv rfl rfl ?_
     refine WL.op rfl (.lenL Try.underlying28 (.tmp rfl)) ?_
     refine WL.op rfl (.ltI (.tmp rfl) (.tmp rfl)) ?_
     refine WL.ns ?_
     refine W.cond (.tmp rfl) (fun hc35 => ?_) (fun hc35 => ?_)
     ·have hp36 := of_decide_eq_true hc35
      rw [if_pos hp36] at hm
      refine W.skip ?_
      refine WN.seq ?_
      refine W.seq ?_
      refine W.block ?_
      refine W.sr ?_
      refine WL.opR rfl (OpR.buildSlice (n := 0) (ys := []) (z := zapi_Unit) (xs := ([] : List api_Unit)) 58 Try.underlying25 el27 ze27 trivial (by simp) (by decide) rfl) (fun k6 => ?_)
      refine WL.gv rfl rfl ?_
      refine WL.ns ?_
      refine W.seq ?_
      refine W.sr ?_
      refine WL.op rfl (.assign .i64) ?_
      refine WL.ns ?_
      refine W.block ?_
      obtain ⟨s37, hs38, hk39⟩ := bind_some hm
      clear hm
      refine W.loop (fun m (s : ((List api_Unit) × Int) × Tok) => M.r07_Units_loop3 p now2 k5 m s.1.1 s.1.2 = some s37) (fun s => [(9, (tO tapi_Unit s.2 s.1.1)), (10, ((tI .i64).is s.1.2)), (1, ((tL tapi_Step).is p)), (5, ((tL tapi_Unit).is now2)), (8, ((tI .i64).is k5))]) (fun s => [(58, Dec.Own tapi_Unit 27 s.2 s.1.1.length)]) _ ((([] : List api_Unit), (0 : Int)), k6) hs38 ⟨Ent.q rfl, Ent.q rfl, Ent.q rfl, Ent.q rfl, Ent.q rfl, trivial⟩ ⟨rfl, rfl, trivial⟩ ?_
      rintro n40 ⟨⟨next, i1⟩, k7⟩ hm
      try dsimp only at hm
      change W _ _ _ _ _ _ _ [(9, (tO tapi_Unit k7 next)), (10, ((tI .i64).is i1)), (1, ((tL tapi_Step).is p)), (5, ((tL tapi_Unit).is now2)), (8, ((tI .i64).is k5))] [(58, Dec.Own tapi_Unit 27 k7 next.length)]
      cases n40 with
      | zero => rw [M.r07_Units_loop3.eq_1] at hm; cases hm
      | succ n40 =>
       rw [M.r07_Units_loop3.eq_2] at hm
       refine W.seq ?_
       refine W.sr ?_
       refine WL.mv rfl rfl ?_
       refine WL.mv rfl rfl ?_
       refine WL.op rfl (.lenL Try.underlying25 (.tmp rfl)) ?_
       refine WL.op rfl (.ltI (.tmp rfl) (.tmp rfl)) ?_
       refine WL.ns ?_
       refine W.cond (.tmp rfl) (fun hc41 => ?_) (fun hc41 => ?_)
       ·have hp42 := of_decide_eq_true hc41
        rw [if_pos hp42] at hm
        refine W.skip ?_
        refine WN.seq ?_
        refine W.seq ?_
        refine W.block ?_
        refine W.sr ?_
        refine WL.op rfl (.assign .i64) ?_
        refine WL.ns ?_
        refine W.block ?_
        obtain ⟨s43, hs44, hk45⟩ := bind_some hm
        clear hm
        refine W.loop (fun m (s : ((List api_Unit) × Int) × Tok) => M.r07_Units_loop4 p now2 k5 i1 m s.1.1 s.1.2 = some s43) (fun s => [(9, (tO tapi_Unit s.2 s.1.1)), (11, ((tI .i64).is s.1.2)), (1, ((tL tapi_Step).is p)), (5, ((tL tapi_Unit).is now2)), (8, ((tI .i64).is k5)), (10, ((tI .i64).is i1))]) (fun s => [(58, Dec.Own tapi_Unit 27 s.2 s.1.1.length)]) _ ((next, (0 : Int)), k7) hs44 ⟨Ent.q rfl, Ent.q rfl, Ent.q rfl, Ent.q rfl, Ent.q rfl, Ent.q rfl, trivial⟩ ⟨rfl, rfl, trivial⟩ ?_
        rintro n46 ⟨⟨next1, j⟩, k8⟩ hm
        try dsimp only at hm
        change W _ _ _ _ _ _ _ [(9, (tO tapi_Unit k8 next1)), (11, ((tI .i64).is j)), (1, ((tL tapi_Step).is p)), (5, ((tL tapi_Unit).is now2)), (8, ((tI .i64).is k5)), (10, ((tI .i64).is i1))] [(58, Dec.Own tapi_Unit 27 k8 next1.length)]
        cases n46 with
        | zero => rw [M.r07_Units_loop4.eq_1] at hm; cases hm
        | succ n46 =>
         rw [M.r07_Units_loop4.eq_2] at hm
         refine W.seq ?_
         refine W.sr ?_
         refine WL.mv rfl rfl ?_
         refine WL.mv rfl rfl ?_
         refine WL.mv rfl rfl ?_
         obtain ⟨v4, hv47, hm⟩ := bind_some hm
         refine WL.op rfl (.idx hv47 Try.underlying25 Try.sizeOf27 (.tmp rfl) (.tmp rfl)) ?_
         refine WL.op rfl (.fieldAddr Try.underlying27 rfl (fun w => ⟨0, Try.sizeOf25 w⟩) fapi_Unit_5 (.tmp rfl)) ?_
         refine WL.op rfl (.load ty25 (.tmp rfl)) ?_
         refine WL.op rfl (.lenL Try.underlying25 (.tmp rfl)) ?_
         refine WL.op rfl (.ltI (.tmp rfl) (.tmp rfl)) ?_
         refine WL.ns ?_
         refine W.cond (.tmp rfl) (fun hc48 => ?_) (fun hc48 => ?_)
         ·have hp49 := of_decide_eq_true hc48
          rw [if_pos hp49] at hm
          refine W.skip ?_
          refine WN.seq ?_
          refine W.seq ?_
          refine W.block ?_
          refine W.seq ?_
          obtain ⟨v5, hv50, hm⟩ := bind_some hm
          obtain ⟨v6, hv51, hm⟩ := bind_some hm
          obtain ⟨v7, hv52, hm⟩ := bind_some hm
          obtain ⟨at0_1, hv53, hm⟩ := bind_some hm
          refine W.draw [.c ((tL tapi_Unit).is now2), .c ((tI .i64).is i1), .c (tapi_Unit.ptr v5), .c ((tL tapi_Unit).ptr v5.Kids), .c ((tL tapi_Unit).is v5.Kids), .c ((tI .i64).is j), .c (tapi_Unit.ptr v6), .c (tapi_Unit.is v6), .c ((tL tapi_Step).is p), .c ((tI .i64).is k5), .c (tapi_Step.ptr v7), .c (tapi_Step.is v7), .c (tB.is at0_1)] [([], [5]), ([], [10]), ([0, 1], []), ([2], []), ([3], []), ([], [11]), ([4, 5], []), ([6], []), ([], [1]), ([], [8]), ([8, 9], []), ([10], []), ([7, 11], [])] Try.mixed rfl rfl rfl rfl ⟨.inr (Op1.move (.tmp rfl)), .inr (Op1.move (.tmp rfl)), .inr (Op1.idx hv50 Try.underlying25 Try.sizeOf27 (.tmp rfl) (.tmp rfl)), .inr (Op1.fieldAddr Try.underlying27 rfl (fun w => ⟨0, Try.sizeOf25 w⟩) fapi_Unit_5 (.tmp rfl)), .inr (Op1.load ty25 (.tmp rfl)), .inr (Op1.move (.tmp rfl)), .inr (Op1.idx hv51 Try.underlying25 Try.sizeOf27 (.tmp rfl) (.tmp rfl)), .inr (Op1.load ty27 (.tmp rfl)), .inr (Op1.move (.tmp rfl)), .inr (Op1.move (.tmp rfl)), .inr (Op1.idx hv52 Try.underlying28 Try.sizeOf55 (.tmp rfl) (.tmp rfl)), .inr (Op1.load ty55 (.tmp rfl)), .inr (Op1.call Try.call82 (r07_at_spec _ _ _ hv53) ⟨(.tmp rfl), (.tmp rfl), trivial⟩), trivial⟩ ?_
          refine WN.seq ?_
          refine W.cond (.tmp rfl) (fun hc54 => ?_) (fun hc54 => ?_)
          ·have hp55 := hc54
           rw [if_pos hp55] at hm
           refine W.region ?_
           refine WL.mv rfl rfl ?_
           refine WL.mv rfl rfl ?_
           refine WL.mv rfl rfl ?_
           obtain ⟨v8, hv56, hm⟩ := bind_some hm
           refine WL.op rfl (.idx hv56 Try.underlying25 Try.sizeOf27 (.tmp rfl) (.tmp rfl)) ?_
           refine WL.op rfl (.fieldAddr Try.underlying27 rfl (fun w => ⟨0, Try.sizeOf25 w⟩) fapi_Unit_5 (.tmp rfl)) ?_
           refine WL.op rfl (.load ty25 (.tmp rfl)) ?_
           refine WL.mv rfl rfl ?_
           obtain ⟨v9, hv57, hm⟩ := bind_some hm
           refine WL.op rfl (.idx hv57 Try.underlying25 Try.sizeOf27 (.tmp rfl) (.tmp rfl)) ?_
           refine WL.op rfl (.load ty27 (.tmp rfl)) ?_
           refine WL.op rfl (.buildSlice (n := 1) (ys := [(0, v9)]) (z := zapi_Unit) (xs := [v9]) Try.underlying25 el27 ze27 ⟨rfl, (.tmp rfl), trivial⟩ (by simp) (by decide) rfl) ?_
           obtain ⟨out2, hv58, hm⟩ := bind_some hm
           refine WL.opR rfl (OpR.appC (key := 58) hv58 Try.underlying25 el27 (.tmp rfl) (.tmp rfl) rfl) (fun k9 => ?_)
           refine WL.gv rfl rfl ?_
           refine WL.nil ?_
           refine WN.block ?_
           refine WN.seq ?_
           refine W.region ?_
           refine WL.mv rfl rfl ?_
           refine WL.lenL (s := 70) (.tmp rfl) fun hl59 => ?_
           refine WL.op rfl (.addI1 (.tmp rfl) .i64 hp49 hl59) ?_
           refine WL.gv rfl rfl ?_
           refine WL.nil ?_
           exact WN.again n46 ((out2, j + 1), k9) (Nat.lt_succ_self n46) hm ⟨Ent.q rfl, Ent.q rfl, Ent.q rfl, Ent.q rfl, Ent.q rfl, Ent.q rfl, trivial⟩ ⟨rfl, rfl, trivial⟩
          ·have hp55 := ne_of_false hc54
           rw [if_neg hp55] at hm
           refine W.skip ?_
           refine WN.block ?_
           refine WN.seq ?_
           refine W.region ?_
           refine WL.mv rfl rfl ?_
           refine WL.lenL (s := 70) (.tmp rfl) fun hl60 => ?_
           refine WL.op rfl (.addI1 (.tmp rfl) .i64 hp49 hl60) ?_
           refine WL.gv rfl rfl ?_
           refine WL.nil ?_
           exact WN.again n46 ((next1, j + 1), k8) (Nat.lt_succ_self n46) hm ⟨Ent.q rfl, Ent.q rfl, Ent.q rfl, Ent.q rfl, Ent.q rfl, Ent.q rfl, trivial⟩ ⟨rfl, rfl, trivial⟩
         ·have hp49 := of_decide_eq_false hc48
          rw [if_neg hp49] at hm
          refine W.exit rfl ?_
          have hr61 := Option.some.inj hm
          clear hm
          subst hr61
          have hm := hk45
          try dsimp only at hm
          refine WN.block ?_
          refine WN.seq ?_
          refine W.region ?_
          refine WL.mv rfl rfl ?_
          obtain ⟨v10, hv62, hm⟩ := bind_some hm
          refine WL.op rfl (.addC hv62 (.tmp rfl) .i64) ?_
          refine WL.gv rfl rfl ?_
          refine WL.nil ?_
          exact WN.again n40 ((next1, v10), k8) (Nat.lt_succ_self n40) hm ⟨Ent.q rfl, Ent.q rfl, Ent.q rfl, Ent.q rfl, Ent.q rfl, trivial⟩ ⟨rfl, rfl, trivial⟩
       ·have hp42 := of_decide_eq_false hc41
        rw [if_neg hp42] at hm
        refine W.exit rfl ?_
        have hr63 := Option.some.inj hm
        clear hm
        subst hr63
        have hm := hk39
        try dsimp only at hm
        refine WN.seq ?_
        refine W.region ?_
        refine WL.mv rfl rfl ?_
        refine WL.gv rfl rfl ?_
        refine WL.nil ?_
        refine WN.block ?_
        refine WN.seq ?_
        refine W.region ?_
        refine WL.mv rfl rfl ?_
        obtain ⟨v11, hv64, hm⟩ := bind_some hm
        refine WL.op rfl (.addC hv64 (.tmp rfl) .i64) ?_
        refine WL.gv rfl rfl ?_
        refine WL.nil ?_
        exact WN.again n34 (next, v11) (Nat.lt_succ_self n34) hm ⟨Ent.o rfl, Ent.q rfl, Ent.q rfl, trivial⟩ trivial
     ·have hp36 := of_decide_eq_false hc35
      rw [if_neg hp36] at hm
      refine W.exit rfl ?_
      have hr65 := Option.some.inj hm
      clear hm
      subst hr65
      have hm := hk33
      try dsimp only at hm
      refine WN.seq ?_
      refine W.sr ?_
      refine WL.mv rfl rfl ?_
      refine WL.gv rfl rfl ?_
      refine WL.ns ?_
      cases hm
      exact W.ret1 () rfl (.tmp rfl) trivial
   ·have hm := hs7
    clear hs7
    refine W.sr ?_
    refine WL.mv rfl rfl ?_
    obtain ⟨v, hv9, hm⟩ := bind_some hm
    refine WL.op rfl (.idx hv9 Try.underlying28 Try.sizeOf55 (.tmp rfl) .i64) ?_
    refine WL.op rfl (.load ty55 (.tmp rfl)) ?_
    obtain ⟨book, hv10, hm⟩ := bind_some hm
    refine WL.op rfl (.call Try.call80 (r07_book_spec _ _ hv10) ⟨(.tmp rfl), trivial⟩) ?_
    refine WL.ns ?_
    refine W.cond (.tmp rfl) (fun hc11 => ?_) (fun hc11 => ?_)
    ·have hp12 := hc11
     rw [if_pos hp12] at hm
     refine W.region ?_
     refine WL.mv rfl rfl ?_
     refine WL.op rfl (.load ty27 (.tmp rfl)) ?_
     refine WL.op rfl (.buildSlice (n := 1) (ys := [(0, u)]) (z := zapi_Unit) (xs := [u]) Try.underlying25 el27 ze27 ⟨rfl, (.tmp rfl), trivial⟩ (by simp) (by decide) rfl) ?_
     obtain ⟨out, hv13, hm⟩ := bind_some hm
     refine WL.opR rfl (OpR.appC (key := 20) hv13 Try.underlying25 el27 (.tmp rfl) (.tmp rfl) rfl) (fun k2 => ?_)
     refine WL.gv rfl rfl ?_
     refine WL.nil ?_
     exact WN.meet (out, k2) (Option.some.inj hm) ⟨Ent.q rfl, Ent.q rfl, trivial⟩ ⟨rfl, rfl, trivial⟩
    ·have hp12 := ne_of_false hc11
     rw [if_neg hp12] at hm
     refine W.sr ?_
     refine WL.op rfl (.load ty27 (.tmp rfl)) ?_
     obtain ⟨every, hv14, hm⟩ := bind_some hm
     refine WL.op rfl (.call Try.call81 (r07_Every_spec _ _ _ hv14) ⟨(.tmp rfl), trivial⟩) ?_
     refine WL.gv rfl rfl ?_
     refine WL.nr ?_
     refine WL.op rfl (.assign .i64) ?_
     refine WL.ns ?_
     refine W.block ?_
     obtain ⟨s15, hs16, hk17⟩ := bind_some hm
     clear hm
     refine W.loop (fun m (s : ((List api_Unit) × Int) × Tok) => M.r07_Units_loop1 p every m s.1.1 s.1.2 = some s15) (fun s => [(5, (tO tapi_Unit s.2 s.1.1)), (7, ((tI .i64).is s.1.2)), (1, ((tL tapi_Step).is p)), (6, ((tL tapi_Unit).is every))]) (fun s => [(20, Dec.Own tapi_Unit 27 s.2 s.1.1.length)]) _ ((([] : List api_Unit), (0 : Int)), k) hs16 ⟨Ent.q rfl, Ent.q rfl, Ent.q rfl, Ent.q rfl, trivial⟩ ⟨rfl, rfl, trivial⟩ ?_
     rintro n18 ⟨⟨now1, i⟩, k3⟩ hm
     try dsimp only at hm
     change W _ _ _ _ _ _ _ [(5, (tO tapi_Unit k3 now1)), (7, ((tI .i64).is i)), (1, ((tL tapi_Step).is p)), (6, ((tL tapi_Unit).is every))] [(20, Dec.Own tapi_Unit 27 k3 now1.length)]
     cases n18 with
     | zero => rw [M.r07_Units_loop1.eq_1] at hm; cases hm
     | succ n18 =>
      rw [M.r07_Units_loop1.eq_2] at hm
      refine W.seq ?_
      refine W.sr ?_
      refine WL.mv rfl rfl ?_
      refine WL.mv rfl rfl ?_
      refine WL.op rfl (.lenL Try.underlying25 (.tmp rfl)) ?_
      refine WL.op rfl (.ltI (.tmp rfl) (.tmp rfl)) ?_
      refine WL.ns ?_
      refine W.cond (.tmp rfl) (fun hc19 => ?_) (fun hc19 => ?_)
      ·have hp20 := of_decide_eq_true hc19
       rw [if_pos hp20] at hm
       refine W.skip ?_
       refine WN.seq ?_
       refine W.seq ?_
       refine W.block ?_
       refine W.seq ?_
       obtain ⟨v1, hv21, hm⟩ := bind_some hm
       obtain ⟨v2, hv22, hm⟩ := bind_some hm
       obtain ⟨at0_, hv23, hm⟩ := bind_some hm
       refine W.draw [.c ((tL tapi_Unit).is every), .c ((tI .i64).is i), .c (tapi_Unit.ptr v1), .c (tapi_Unit.is v1), .c ((tL tapi_Step).is p), .c (tapi_Step.ptr v2), .c (tapi_Step.is v2), .c (tB.is at0_)] [([], [6]), ([], [7]), ([0, 1], []), ([2], []), ([], [1]), ([4], []), ([5], []), ([3, 6], [])] Try.mixed rfl rfl rfl rfl ⟨.inr (Op1.move (.tmp rfl)), .inr (Op1.move (.tmp rfl)), .inr (Op1.idx hv21 Try.underlying25 Try.sizeOf27 (.tmp rfl) (.tmp rfl)), .inr (Op1.load ty27 (.tmp rfl)), .inr (Op1.move (.tmp rfl)), .inr (Op1.idx hv22 Try.underlying28 Try.sizeOf55 (.tmp rfl) .i64), .inr (Op1.load ty55 (.tmp rfl)), .inr (Op1.call Try.call82 (r07_at_spec _ _ _ hv23) ⟨(.tmp rfl), (.tmp rfl), trivial⟩), trivial⟩ ?_
       refine WN.seq ?_
       refine W.cond (.tmp rfl) (fun hc24 => ?_) (fun hc24 => ?_)
       ·have hp25 := hc24
        rw [if_pos hp25] at hm
        refine W.region ?_
        refine WL.mv rfl rfl ?_
        refine WL.mv rfl rfl ?_
        refine WL.mv rfl rfl ?_
        obtain ⟨v3, hv26, hm⟩ := bind_some hm
        refine WL.op rfl (.idx hv26 Try.underlying25 Try.sizeOf27 (.tmp rfl) (.tmp rfl)) ?_
        refine WL.op rfl (.load ty27 (.tmp rfl)) ?_
        refine WL.op rfl (.buildSlice (n := 1) (ys := [(0, v3)]) (z := zapi_Unit) (xs := [v3]) Try.underlying25 el27 ze27 ⟨rfl, (.tmp rfl), trivial⟩ (by simp) (by decide) rfl) ?_
        obtain ⟨out1, hv27, hm⟩ := bind_some hm
        refine WL.opR rfl (OpR.appC (key := 20) hv27 Try.underlying25 el27 (.tmp rfl) (.tmp rfl) rfl) (fun k4 => ?_)
        refine WL.gv rfl rfl ?_
        refine WL.nil ?_
        refine WN.block ?_
        refine WN.seq ?_
        refine W.region ?_
        refine WL.mv rfl rfl ?_
        refine WL.lenL (s := 6) (.tmp rfl) fun hl28 => ?_
        refine WL.op rfl (.addI1 (.tmp rfl) .i64 hp20 hl28) ?_
        refine WL.gv rfl rfl ?_
        refine WL.nil ?_
        exact WN.again n18 ((out1, i + 1), k4) (Nat.lt_succ_self n18) hm ⟨Ent.q rfl, Ent.q rfl, Ent.q rfl, Ent.q rfl, trivial⟩ ⟨rfl, rfl, trivial⟩
       ·have hp25 := ne_of_false hc24
        rw [if_neg hp25] at hm
        refine W.skip ?_
        refine WN.block ?_
        refine WN.seq ?_
        refine W.region ?_
        refine WL.mv rfl rfl ?_
        refine WL.lenL (s := 6) (.tmp rfl) fun hl29 => ?_
        refine WL.op rfl (.addI1 (.tmp rfl) .i64 hp20 hl29) ?_
        refine WL.gv rfl rfl ?_
        refine WL.nil ?_
        exact WN.again n18 ((now1, i + 1), k3) (Nat.lt_succ_self n18) hm ⟨Ent.q rfl, Ent.q rfl, Ent.q rfl, Ent.q rfl, trivial⟩ ⟨rfl, rfl, trivial⟩
      ·have hp20 := of_decide_eq_false hc19
       rw [if_neg hp20] at hm
       refine W.exit rfl ?_
       have hr30 := Option.some.inj hm
       clear hm
       subst hr30
       have hm := hk17
       try dsimp only at hm
       exact WN.meet (now1, k3) (Option.some.inj hm) ⟨Ent.q rfl, Ent.q rfl, trivial⟩ ⟨rfl, rfl, trivial⟩

theorem r07_Find_spec (n : Nat) (u : api_Unit) (p : List api_Step) (r : (List api_Id)) (hm : M.r07_Find n u p = some r) : FSpec Try.prog 36 [(tapi_Unit.is u), ((tL tapi_Step).is p)] ((tL tapi_Id).is r) := by
 unfold M.r07_Find at hm
 refine FSpec.of Try.func36 rfl rfl rfl (fun g0 => ?_)
 refine W.sr ?_
 refine WL.op rfl (.box (.tmp rfl)) ?_
 refine WL.op rfl (.assign (.nil (t := tapi_Id))) ?_
 refine WL.nr ?_
 refine WL.opR rfl (OpR.buildSlice (n := 0) (ys := []) (z := zapi_Id) (xs := ([] : List api_Id)) 8 Try.underlying31 el23 ze23 trivial (by simp) (by decide) rfl) (fun k => ?_)
 refine WL.gv rfl rfl ?_
 refine WL.nr ?_
 refine WL.op rfl (.load ty27 (.tmp rfl)) ?_
 refine WL.mv rfl rfl ?_
 obtain ⟨units, hv1, hm⟩ := bind_some hm
 refine WL.op rfl (.call Try.call56 (r07_Units_spec _ _ _ _ hv1) ⟨(.tmp rfl), (.tmp rfl), trivial⟩) ?_
 refine WL.gv rfl rfl ?_
 refine WL.ns ?_
 refine W.seq ?_
 refine W.sr ?_
 refine WL.op rfl (.assign .i64) ?_
 refine WL.ns ?_
 refine W.block ?_
 obtain ⟨s2, hs3, hk4⟩ := bind_some hm
 clear hm
 refine W.loop (fun m (s : ((List api_Id) × Int) × Tok) => M.r07_Find_loop1 units m s.1.1 s.1.2 = some s2) (fun s => [(5, (tO tapi_Id s.2 s.1.1)), (7, ((tI .i64).is s.1.2)), (6, ((tL tapi_Unit).is units))]) (fun s => [(8, Dec.Own tapi_Id 23 s.2 s.1.1.length)]) _ ((([] : List api_Id), (0 : Int)), k) hs3 ⟨Ent.q rfl, Ent.q rfl, Ent.q rfl, trivial⟩ ⟨rfl, rfl, trivial⟩ ?_
 rintro n5 ⟨⟨out, i⟩, k1⟩ hm
 try dsimp only at hm
 change W _ _ _ _ _ _ _ [(5, (tO tapi_Id k1 out)), (7, ((tI .i64).is i)), (6, ((tL tapi_Unit).is units))] [(8, Dec.Own tapi_Id 23 k1 out.length)]
 cases n5 with
 | zero => rw [M.r07_Find_loop1.eq_1] at hm; cases hm
 | succ n5 =>
  rw [M.r07_Find_loop1.eq_2] at hm
  refine W.seq ?_
  refine W.sr ?_
  refine WL.mv rfl rfl ?_
  refine WL.mv rfl rfl ?_
  refine WL.op rfl (.lenL Try.underlying25 (.tmp rfl)) ?_
  refine WL.op rfl (.ltI (.tmp rfl) (.tmp rfl)) ?_
  refine WL.ns ?_
  refine W.cond (.tmp rfl) (fun hc6 => ?_) (fun hc6 => ?_)
  ·have hp7 := of_decide_eq_true hc6
   rw [if_pos hp7] at hm
   refine W.skip ?_
   refine WN.seq ?_
   refine W.seq ?_
   refine W.block ?_
   refine W.region ?_
   refine WL.mv rfl rfl ?_
   refine WL.mv rfl rfl ?_
   refine WL.mv rfl rfl ?_
   obtain ⟨v, hv8, hm⟩ := bind_some hm
   refine WL.op rfl (.idx hv8 Try.underlying25 Try.sizeOf27 (.tmp rfl) (.tmp rfl)) ?_
   refine WL.op rfl (.fieldAddr Try.underlying27 rfl (fun w => ⟨2, Try.sizeOf23 w⟩) fapi_Unit_0 (.tmp rfl)) ?_
   refine WL.op rfl (.load ty23 (.tmp rfl)) ?_
   refine WL.op rfl (.buildSlice (n := 1) (ys := [(0, v.Id)]) (z := zapi_Id) (xs := [v.Id]) Try.underlying31 el23 ze23 ⟨rfl, (.tmp rfl), trivial⟩ (by simp) (by decide) rfl) ?_
   obtain ⟨out1, hv9, hm⟩ := bind_some hm
   refine WL.opR rfl (OpR.appC (key := 8) hv9 Try.underlying31 el23 (.tmp rfl) (.tmp rfl) rfl) (fun k2 => ?_)
   refine WL.gv rfl rfl ?_
   refine WL.nil ?_
   refine WN.block ?_
   refine WN.seq ?_
   refine W.region ?_
   refine WL.mv rfl rfl ?_
   refine WL.lenL (s := 6) (.tmp rfl) fun hl10 => ?_
   refine WL.op rfl (.addI1 (.tmp rfl) .i64 hp7 hl10) ?_
   refine WL.gv rfl rfl ?_
   refine WL.nil ?_
   exact WN.again n5 ((out1, i + 1), k2) (Nat.lt_succ_self n5) hm ⟨Ent.q rfl, Ent.q rfl, Ent.q rfl, trivial⟩ ⟨rfl, rfl, trivial⟩
  ·have hp7 := of_decide_eq_false hc6
   rw [if_neg hp7] at hm
   refine W.exit rfl ?_
   have hr11 := Option.some.inj hm
   clear hm
   subst hr11
   have hm := hk4
   try dsimp only at hm
   refine WN.seq ?_
   refine W.sr ?_
   refine WL.mv rfl rfl ?_
   refine WL.gv rfl rfl ?_
   refine WL.ns ?_
   cases hm
   exact W.ret1 () rfl (Opd.own (.tmp rfl)) trivial

theorem r07_One_spec (n : Nat) (u : api_Unit) (p : List api_Step) (r : api_Id × Int) (hm : M.r07_One n u p = some r) : FSpec Try.prog 29 [(tapi_Unit.is u), ((tL tapi_Step).is p)] (Asn.tuple2 (tapi_Id.is r.1) ((tI .i64).is r.2)) := by
 unfold M.r07_One at hm
 refine FSpec.of Try.func29 rfl rfl rfl (fun g0 => ?_)
 refine W.sr ?_
 refine WL.op rfl (.box (.tmp rfl)) ?_
 refine WL.opR rfl (OpR.alloc 4 ze23) (fun b => ?_)
 refine WL.op rfl (.assign .i64) ?_
 refine WL.nr ?_
 refine WL.op rfl (.load ty27 (.tmp rfl)) ?_
 refine WL.mv rfl rfl ?_
 obtain ⟨find, hv1, hm⟩ := bind_some hm
 refine WL.op rfl (.call Try.call36 (r07_Find_spec _ _ _ _ hv1) ⟨(.tmp rfl), (.tmp rfl), trivial⟩) ?_
 refine WL.gv rfl rfl ?_
 refine WL.ns ?_
 refine W.seq ?_
 refine W.sr ?_
 refine WL.mv rfl rfl ?_
 refine WL.op rfl (.lenL Try.underlying31 (.tmp rfl)) ?_
 refine WL.op rfl (.eqI (.tmp rfl) .i64) ?_
 refine WL.ns ?_
 refine W.cond (.tmp rfl) (fun hc2 => ?_) (fun hc2 => ?_)
 ·have hp3 := of_decide_eq_true hc2
  rw [if_pos hp3] at hm
  refine W.sr ?_
  refine WL.op rfl (.build (s := tapi_Id) (x := (⟨(0 : Int), (0 : Int), (0 : Int)⟩ : api_Id)) zapi_Id_f rfl Try.underlying23 (zapi_Id_sz _ Try.underlying23) ze23 rfl) ?_
  refine WL.opU (OpR.storeB (b := b) 4 Try.sizeOf23 (Cellable.is tapi_Id (⟨(0 : Int), (0 : Int), (0 : Int)⟩ : api_Id)) rfl (.tmp rfl) (.tmp rfl)) (fun _ => ?_)
  refine WL.op rfl (.assign .i64) ?_
  refine WL.ns ?_
  cases hm
  exact W.retQ2 () rfl rfl (ResAt.cell 4 Try.isAgg23 Try.sizeOf23 rfl (.tmp rfl)) (ResAt.tmp (.tmp rfl)) trivial
 ·have hp3 := of_decide_eq_false hc2
  rw [if_neg hp3] at hm
  refine W.skip ?_
  refine WN.seq ?_
  refine W.seq ?_
  refine W.sr ?_
  refine WL.mv rfl rfl ?_
  refine WL.op rfl (.lenL Try.underlying31 (.tmp rfl)) ?_
  refine WL.op rfl (.gtI (.tmp rfl) .i64) ?_
  refine WL.ns ?_
  refine W.cond (.tmp rfl) (fun hc4 => ?_) (fun hc4 => ?_)
  ·have hp5 := of_decide_eq_true hc4
   rw [if_pos hp5] at hm
   refine W.sr ?_
   refine WL.op rfl (.build (s := tapi_Id) (x := (⟨(0 : Int), (0 : Int), (0 : Int)⟩ : api_Id)) zapi_Id_f rfl Try.underlying23 (zapi_Id_sz _ Try.underlying23) ze23 rfl) ?_
   refine WL.opU (OpR.storeB (b := b) 4 Try.sizeOf23 (Cellable.is tapi_Id (⟨(0 : Int), (0 : Int), (0 : Int)⟩ : api_Id)) rfl (.tmp rfl) (.tmp rfl)) (fun _ => ?_)
   refine WL.op rfl (.assign .i64) ?_
   refine WL.ns ?_
   cases hm
   exact W.retQ2 () rfl rfl (ResAt.cell 4 Try.isAgg23 Try.sizeOf23 rfl (.tmp rfl)) (ResAt.tmp (.tmp rfl)) trivial
  ·have hp5 := of_decide_eq_false hc4
   rw [if_neg hp5] at hm
   refine W.skip ?_
   refine WN.seq ?_
   refine W.sr ?_
   refine WL.mv rfl rfl ?_
   obtain ⟨v, hv6, hm⟩ := bind_some hm
   refine WL.op rfl (.idx hv6 Try.underlying31 Try.sizeOf23 (.tmp rfl) .i64) ?_
   refine WL.op rfl (.load ty23 (.tmp rfl)) ?_
   refine WL.opU (OpR.storeB (b := b) 4 Try.sizeOf23 (Cellable.is tapi_Id v) rfl (.tmp rfl) (.tmp rfl)) (fun _ => ?_)
   refine WL.op rfl (.assign .i64) ?_
   refine WL.ns ?_
   cases hm
   exact W.retQ2 () rfl rfl (ResAt.cell 4 Try.isAgg23 Try.sizeOf23 rfl (.tmp rfl)) (ResAt.tmp (.tmp rfl)) trivial

theorem r23_Parent_spec : ∀ (n : Nat) (u : api_Unit) (id : api_Id) (r : api_Unit × Int × Int), M.r23_Parent n u id = some r → FSpec Try.prog 30 [(tapi_Unit.is u), (tapi_Id.is id)] (Asn.tuple3 (tapi_Unit.is r.1) ((tI .i64).is r.2.1) ((tI .i64).is r.2.2)) := by
 intro n
 induction n with
 | zero => intro u id r hm; cases hm
 | succ n ih =>
  intro u id r hm
  rw [M.r23_Parent.eq_2] at hm
  refine FSpec.of Try.func30 rfl rfl rfl (fun g0 => ?_)
  refine W.sr ?_
  refine WL.op rfl (.box (.tmp rfl)) ?_
  refine WL.op rfl (.box (.tmp rfl)) ?_
  refine WL.opR rfl (OpR.alloc 4 ze27) (fun b => ?_)
  refine WL.op rfl (.assign .i64) ?_
  refine WL.op rfl (.assign .i64) ?_
  refine WL.ns ?_
  refine W.seq ?_
  refine W.sr ?_
  refine WL.op rfl (.assign .i64) ?_
  refine WL.ns ?_
  refine W.block ?_
  obtain ⟨s1, hs2, hk3⟩ := bind_some hm
  clear hm
  refine W.loop (fun m (s : Int × api_Unit) => M.r23_Parent_loop1 u id m s.1 s.2 = some s1) (fun s => [(7, ((tI .i64).is s.1)), (2, (tapi_Unit.ptr u)), (3, (tapi_Id.ptr id)), (4, (Bp b 0))]) (fun s => [(4, (Bx 8 true 27 (tapi_Unit.is s.2) b))]) _ ((0 : Int), zapi_Unit) hs2 ⟨Ent.q rfl, Ent.q rfl, Ent.q rfl, Ent.q rfl, trivial⟩ ⟨rfl, rfl, trivial⟩ ?_
  rintro n4 ⟨i, v⟩ hm
  try dsimp only at hm
  change W _ _ _ _ _ _ _ [(7, ((tI .i64).is i)), (2, (tapi_Unit.ptr u)), (3, (tapi_Id.ptr id)), (4, (Bp b 0))] [(4, (Bx 8 true 27 (tapi_Unit.is v) b))]
  cases n4 with
  | zero => rw [M.r23_Parent_loop1.eq_1] at hm; cases hm
  | succ n4 =>
   rw [M.r23_Parent_loop1.eq_2] at hm
   refine W.seq ?_
   refine W.sr ?_
   refine WL.mv rfl rfl ?_
   refine WL.op rfl (.fieldAddr Try.underlying27 rfl (fun w => ⟨0, Try.sizeOf25 w⟩) fapi_Unit_5 (.tmp rfl)) ?_
   refine WL.op rfl (.load ty25 (.tmp rfl)) ?_
   refine WL.op rfl (.lenL Try.underlying25 (.tmp rfl)) ?_
   refine WL.op rfl (.ltI (.tmp rfl) (.tmp rfl)) ?_
   refine WL.ns ?_
   refine W.cond (.tmp rfl) (fun hc5 => ?_) (fun hc5 => ?_)
   ·have hp6 := of_decide_eq_true hc5
    rw [if_pos hp6] at hm
    refine W.skip ?_
    refine WN.seq ?_
    refine W.seq ?_
    refine W.block ?_
    refine W.seq ?_
    obtain ⟨v1, hv7, hm⟩ := bind_some hm
    refine W.draw [.c ((tL tapi_Unit).ptr u.Kids), .c ((tL tapi_Unit).is u.Kids), .c ((tI .i64).is i), .c (tapi_Unit.ptr v1), .c (tapi_Id.ptr v1.Id), .c (tapi_Id.is v1.Id), .c (tapi_Id.is id), .c (tB.is (decide (v1.Id = id)))] [([], [2]), ([0], []), ([], [7]), ([1, 2], []), ([3], []), ([4], []), ([], [3]), ([5, 6], [])] Try.mixed rfl rfl rfl rfl ⟨.inr (Op1.fieldAddr Try.underlying27 rfl (fun w => ⟨0, Try.sizeOf25 w⟩) fapi_Unit_5 (.tmp rfl)), .inr (Op1.load ty25 (.tmp rfl)), .inr (Op1.move (.tmp rfl)), .inr (Op1.idx hv7 Try.underlying25 Try.sizeOf27 (.tmp rfl) (.tmp rfl)), .inr (Op1.fieldAddr Try.underlying27 rfl (fun w => ⟨2, Try.sizeOf23 w⟩) fapi_Unit_0 (.tmp rfl)), .inr (Op1.load ty23 (.tmp rfl)), .inr (Op1.load ty23 (.tmp rfl)), .inr (Op1.eqSt (D := 2) rfl (by decide) eg23 eq23 (.tmp rfl) (.tmp rfl)), trivial⟩ ?_
    refine WN.seq ?_
    refine W.cond (.tmp rfl) (fun hc8 => ?_) (fun hc8 => ?_)
    ·have hp9 := of_decide_eq_true hc8
     rw [if_pos hp9] at hm
     refine W.sr ?_
     refine WL.op rfl (.load ty27 (.tmp rfl)) ?_
     refine WL.mv rfl rfl ?_
     refine WL.opU (OpR.storeB (b := b) 4 Try.sizeOf27 (Cellable.is tapi_Unit u) rfl (.tmp rfl) (.tmp rfl)) (fun _ => ?_)
     refine WL.op rfl (.assign .i64) ?_
     refine WL.gv rfl rfl ?_
     refine WL.ns ?_
     have hr10 := Option.some.inj hm
     clear hm
     subst hr10
     have hm := hk3
     try dsimp only at hm
     cases hm
     exact W.retQ3 () rfl rfl (ResAt.cell 4 Try.isAgg27 Try.sizeOf27 rfl (.tmp rfl)) (ResAt.tmp (.tmp rfl)) (ResAt.tmp (.tmp rfl)) trivial
    ·have hp9 := of_decide_eq_false hc8
     rw [if_neg hp9] at hm
     refine W.skip ?_
     refine WN.block ?_
     refine WN.seq ?_
     refine W.region ?_
     refine WL.mv rfl rfl ?_
     refine WL.lenL (s := 14) (.tmp rfl) fun hl11 => ?_
     refine WL.op rfl (.addI1 (.tmp rfl) .i64 hp6 hl11) ?_
     refine WL.gv rfl rfl ?_
     refine WL.nil ?_
     exact WN.again n4 (i + 1, v) (Nat.lt_succ_self n4) hm ⟨Ent.q rfl, Ent.q rfl, Ent.q rfl, Ent.q rfl, trivial⟩ ⟨rfl, rfl, trivial⟩
   ·have hp6 := of_decide_eq_false hc5
    rw [if_neg hp6] at hm
    refine W.exit rfl ?_
    have hr12 := Option.some.inj hm
    clear hm
    subst hr12
    have hm := hk3
    try dsimp only at hm
    refine WN.seq ?_
    refine W.seq ?_
    refine W.sr ?_
    refine WL.op rfl (.assign .i64) ?_
    refine WL.ns ?_
    refine W.block ?_
    obtain ⟨s13, hs14, hk15⟩ := bind_some hm
    clear hm
    refine W.loop (fun m (s : Int × api_Unit) => M.r23_Parent_loop2 u id (M.r23_Parent n) m s.1 s.2 = some s13) (fun s => [(8, ((tI .i64).is s.1)), (2, (tapi_Unit.ptr u)), (3, (tapi_Id.ptr id)), (4, (Bp b 0))]) (fun s => [(4, (Bx 8 true 27 (tapi_Unit.is s.2) b))]) _ ((0 : Int), v) hs14 ⟨Ent.q rfl, Ent.q rfl, Ent.q rfl, Ent.q rfl, trivial⟩ ⟨rfl, rfl, trivial⟩ ?_
    rintro n16 ⟨i1, v2⟩ hm
    try dsimp only at hm
    change W _ _ _ _ _ _ _ [(8, ((tI .i64).is i1)), (2, (tapi_Unit.ptr u)), (3, (tapi_Id.ptr id)), (4, (Bp b 0))] [(4, (Bx 8 true 27 (tapi_Unit.is v2) b))]
    cases n16 with
    | zero => rw [M.r23_Parent_loop2.eq_1] at hm; cases hm
    | succ n16 =>
     rw [M.r23_Parent_loop2.eq_2] at hm
     refine W.seq ?_
     refine W.sr ?_
     refine WL.mv rfl rfl ?_
     refine WL.op rfl (.fieldAddr Try.underlying27 rfl (fun w => ⟨0, Try.sizeOf25 w⟩) fapi_Unit_5 (.tmp rfl)) ?_
     refine WL.op rfl (.load ty25 (.tmp rfl)) ?_
     refine WL.op rfl (.lenL Try.underlying25 (.tmp rfl)) ?_
     refine WL.op rfl (.ltI (.tmp rfl) (.tmp rfl)) ?_
     refine WL.ns ?_
     refine W.cond (.tmp rfl) (fun hc17 => ?_) (fun hc17 => ?_)
     ·have hp18 := of_decide_eq_true hc17
      rw [if_pos hp18] at hm
      refine W.skip ?_
      refine WN.seq ?_
      refine W.seq ?_
      refine W.block ?_
      refine W.seq ?_
      obtain ⟨v3, hv19, hm⟩ := bind_some hm
      obtain ⟨parent, hv20, hm⟩ := bind_some hm
      refine W.weakR (res' := [(4, (Bx 8 true 27 (tapi_Unit.is v2) b))]) ⟨rfl, rfl, trivial⟩ ?_
      refine W.drawM [.c ((tL tapi_Unit).ptr u.Kids), .c ((tL tapi_Unit).is u.Kids), .c ((tI .i64).is i1), .c (tapi_Unit.ptr v3), .c (tapi_Unit.is v3), .c (tapi_Id.is id), .c (Asn.tuple3 (tapi_Unit.is parent.1) ((tI .i64).is parent.2.1) ((tI .i64).is parent.2.2)), .c (Asn.tuple3 (tapi_Unit.is parent.1) ((tI .i64).is parent.2.1) ((tI .i64).is parent.2.2)), .c (tapi_Unit.is parent.1), .c ((tI .i64).is parent.2.1), .c ((tI .i64).is parent.2.2), .f (fun cv => (Bp (bk (cv 0)) 0)), .c Asn.any, .c ((tI .i64).is parent.2.1), .c ((tI .i64).is parent.2.2)] [([], [2]), ([0], []), ([], [8]), ([1, 2], []), ([3], []), ([], [3]), ([4, 5], []), ([6], []), ([7], []), ([7], []), ([7], []), ([], []), ([8, 11], []), ([9], []), ([10], [])] [11, 12] [[], [], [], [], [], [], [], [], [], [], [], [true], [], [], []] (fun m cv => match m with | 0 => [(4, (Bx 8 true 27 (tapi_Unit.is v2) b))] | 1 => [(9, (Bx 8 true 27 (tapi_Unit.is zapi_Unit) (bk (cv 0)))), (4, (Bx 8 true 27 (tapi_Unit.is v2) b))] | _ => [(9, (Bx 8 true 27 (tapi_Unit.is parent.1) (bk (cv 0)))), (4, (Bx 8 true 27 (tapi_Unit.is v2) b))]) (fun _ => none) Try.mixed rfl rfl rfl rfl rfl ⟨fun _ _ _ _ => rfl, ⟨fun _ _ _ _ => rfl, ⟨fun _ _ _ _ => rfl, ⟨fun _ _ _ _ => rfl, ⟨fun _ _ _ _ => rfl, ⟨fun _ _ _ _ => rfl, ⟨fun _ _ _ _ => rfl, ⟨fun _ _ _ _ => rfl, ⟨fun _ _ _ _ => rfl, ⟨fun _ _ _ _ => rfl, ⟨fun _ _ _ _ => rfl, ⟨fun m hm c t => by simp only [DA.at, upd_dep (r := [true]) (j := 0) rfl hm], ⟨fun _ _ _ _ => rfl, ⟨fun _ _ _ _ => rfl, ⟨fun _ _ _ _ => rfl, trivial⟩⟩⟩⟩⟩⟩⟩⟩⟩⟩⟩⟩⟩⟩⟩ rfl ⟨mo fun cv => Op1.fieldAddr Try.underlying27 rfl (fun w => ⟨0, Try.sizeOf25 w⟩) fapi_Unit_5 (.tmp rfl), ⟨mo fun cv => Op1.load ty25 (.tmp rfl), ⟨mo fun cv => Op1.move (.tmp rfl), ⟨mo fun cv => Op1.idx hv19 Try.underlying25 Try.sizeOf27 (.tmp rfl) (.tmp rfl), ⟨mo fun cv => Op1.load ty27 (.tmp rfl), ⟨mo fun cv => Op1.load ty23 (.tmp rfl), ⟨mo fun cv => Op1.call Try.call30 (ih _ _ _ hv20) ⟨(.tmp rfl), (.tmp rfl), trivial⟩, ⟨mo fun cv => Op1.move (.tmp rfl), ⟨mo fun cv => Op1.extract30 (.tmp rfl), ⟨mo fun cv => Op1.extract31 (.tmp rfl), ⟨mo fun cv => Op1.extract32 (.tmp rfl), ⟨.inl rfl, ⟨.inl rfl, ⟨mo fun cv => Op1.assign (.tmp rfl), ⟨mo fun cv => Op1.assign (.tmp rfl), trivial⟩⟩⟩⟩⟩⟩⟩⟩⟩⟩⟩⟩⟩⟩⟩ ⟨⟨_, _, _, [], (fun cv => [(9, (Bx 8 true 27 (tapi_Unit.is zapi_Unit) (bk (cv 0))))]), rfl, rfl, rfl, rfl, fun _ => rfl, fun _ _ => rfl, fun cv => OpR.viaB (OpR.alloc 9 ze27)⟩, ⟨⟨_, _, _, [9], (fun cv => [(9, (Bx 8 true 27 (tapi_Unit.is parent.1) (bk (cv 0))))]), rfl, rfl, rfl, rfl, fun _ => rfl, fun _ _ => rfl, fun cv => OpR.viaU (OpR.storeB (b := (bk (cv 0))) 9 Try.sizeOf27 (Cellable.is tapi_Unit parent.1) rfl (.tmp rfl) (.tmp rfl))⟩, trivial⟩⟩ (fun cv => ?_)
      refine WN.seq ?_
      refine W.sr ?_
      refine WL.mv rfl rfl ?_
      refine WL.op rfl (.geI (.tmp rfl) .i64) ?_
      refine WL.ns ?_
      refine W.cond (.tmp rfl) (fun hc21 => ?_) (fun hc21 => ?_)
      ·have hp22 := of_decide_eq_true hc21
       rw [if_pos hp22] at hm
       refine W.sr ?_
       refine WL.op rfl (.loadB 9 Try.isAgg27 Try.sizeOf27 rfl (.tmp rfl)) ?_
       refine WL.mv rfl rfl ?_
       obtain ⟨v4, hv23, hm⟩ := bind_some hm
       refine WL.op rfl (.addC hv23 (.tmp rfl) .i64) ?_
       refine WL.mv rfl rfl ?_
       refine WL.opU (OpR.storeB (b := b) 4 Try.sizeOf27 (Cellable.is tapi_Unit parent.1) rfl (.tmp rfl) (.tmp rfl)) (fun _ => ?_)
       refine WL.gv rfl rfl ?_
       refine WL.gv rfl rfl ?_
       refine WL.ns ?_
       have hr24 := Option.some.inj hm
       clear hm
       subst hr24
       have hm := hk15
       try dsimp only at hm
       cases hm
       exact W.retQ3 () rfl rfl (ResAt.cell 4 Try.isAgg27 Try.sizeOf27 rfl (.tmp rfl)) (ResAt.tmp (.tmp rfl)) (ResAt.tmp (.tmp rfl)) trivial
      ·have hp22 := of_decide_eq_false hc21
       rw [if_neg hp22] at hm
       refine W.skip ?_
       refine WN.block ?_
       refine WN.seq ?_
       refine W.region ?_
       refine WL.mv rfl rfl ?_
       refine WL.lenL (s := 31) (.tmp rfl) fun hl25 => ?_
       refine WL.op rfl (.addI1 (.tmp rfl) .i64 hp18 hl25) ?_
       refine WL.gv rfl rfl ?_
       refine WL.nil ?_
       exact WN.again n16 (i1 + 1, v2) (Nat.lt_succ_self n16) hm ⟨Ent.q rfl, Ent.q rfl, Ent.q rfl, Ent.q rfl, trivial⟩ ⟨rfl, rfl, trivial⟩
     ·have hp18 := of_decide_eq_false hc17
      rw [if_neg hp18] at hm
      refine W.exit rfl ?_
      have hr26 := Option.some.inj hm
      clear hm
      subst hr26
      have hm := hk15
      try dsimp only at hm
      refine WN.seq ?_
      refine W.sr ?_
      refine WL.op rfl (.build (s := tapi_Unit) (x := (⟨zapi_Id, (0 : Int), ([] : Str), ([] : List api_Word), ([] : List api_Word), ([] : List api_Unit)⟩ : api_Unit)) zapi_Unit_f rfl Try.underlying27 (zapi_Unit_sz _ Try.underlying27) ze27 rfl) ?_
      refine WL.opU (OpR.storeB (b := b) 4 Try.sizeOf27 (Cellable.is tapi_Unit (⟨zapi_Id, (0 : Int), ([] : Str), ([] : List api_Word), ([] : List api_Word), ([] : List api_Unit)⟩ : api_Unit)) rfl (.tmp rfl) (.tmp rfl)) (fun _ => ?_)
      refine WL.op rfl (.assign .i64) ?_
      refine WL.op rfl (.assign .i64) ?_
      refine WL.ns ?_
      cases hm
      exact W.retQ3 () rfl rfl (ResAt.cell 4 Try.isAgg27 Try.sizeOf27 rfl (.tmp rfl)) (ResAt.tmp (.tmp rfl)) (ResAt.tmp (.tmp rfl)) trivial

theorem r41_Between_spec (n : Nat) (u : api_Unit) (a : api_Id) (b : api_Id) (r : (List api_Id)) (hm : M.r41_Between n u a b = some r) : FSpec Try.prog 16 [(tapi_Unit.is u), (tapi_Id.is a), (tapi_Id.is b)] ((tL tapi_Id).is r) := by
 unfold M.r41_Between at hm
 refine FSpec.of Try.func16 rfl rfl rfl (fun g0 => ?_)
 refine W.sr ?_
 refine WL.op rfl (.box (.tmp rfl)) ?_
 refine WL.op rfl (.box (.tmp rfl)) ?_
 refine WL.op rfl (.box (.tmp rfl)) ?_
 refine WL.op rfl (.assign (.nil (t := tapi_Id))) ?_
 refine WL.nr ?_
 refine WL.opR rfl (OpR.buildSlice (n := 0) (ys := []) (z := zapi_Id) (xs := ([] : List api_Id)) 15 Try.underlying31 el23 ze23 trivial (by simp) (by decide) rfl) (fun k => ?_)
 refine WL.gv rfl rfl ?_
 refine WL.nr ?_
 refine WL.op rfl (.load ty27 (.tmp rfl)) ?_
 refine WL.op rfl (.load ty23 (.tmp rfl)) ?_
 obtain ⟨parent, hv1, hm⟩ := bind_some hm
 refine WL.op rfl (.call Try.call30 (r23_Parent_spec _ _ _ _ hv1) ⟨(.tmp rfl), (.tmp rfl), trivial⟩) ?_
 refine WL.mv rfl rfl ?_
 refine WL.op rfl (.extract30 (.tmp rfl)) ?_
 refine WL.op rfl (.extract31 (.tmp rfl)) ?_
 refine WL.op rfl (.extract32 (.tmp rfl)) ?_
 refine WL.opR rfl (OpR.alloc 8 ze27) (fun b1 => ?_)
 refine WL.opU (OpR.storeB (b := b1) 8 Try.sizeOf27 (Cellable.is tapi_Unit parent.1) rfl (.tmp rfl) (.tmp rfl)) (fun _ => ?_)
 refine WL.sealed (t := tapi_Unit) (u := parent.1) 8 8 rfl rfl ?_
 refine WL.gv rfl rfl ?_
 refine WL.gv rfl rfl ?_
 refine WL.nr ?_
 refine WL.op rfl (.load ty27 (.tmp rfl)) ?_
 refine WL.op rfl (.load ty23 (.tmp rfl)) ?_
 obtain ⟨parent1, hv2, hm⟩ := bind_some hm
 refine WL.op rfl (.call Try.call30 (r23_Parent_spec _ _ _ _ hv2) ⟨(.tmp rfl), (.tmp rfl), trivial⟩) ?_
 refine WL.mv rfl rfl ?_
 refine WL.op rfl (.extract30 (.tmp rfl)) ?_
 refine WL.op rfl (.extract31 (.tmp rfl)) ?_
 refine WL.op rfl (.extract32 (.tmp rfl)) ?_
 refine WL.opR rfl (OpR.alloc 11 ze27) (fun b2 => ?_)
 refine WL.opU (OpR.storeB (b := b2) 11 Try.sizeOf27 (Cellable.is tapi_Unit parent1.1) rfl (.tmp rfl) (.tmp rfl)) (fun _ => ?_)
 refine WL.sealed (t := tapi_Unit) (u := parent1.1) 11 11 rfl rfl ?_
 refine WL.gv rfl rfl ?_
 refine WL.gv rfl rfl ?_
 refine WL.ns ?_
 refine W.seq ?_
 refine W.seq ?_
 rcases bcases (decide (parent.2.2 < (0 : Int))) with hb3 | hb3
 ·have hp4 := of_decide_eq_true hb3
  rw [if_pos hp4] at hm
  refine W.draw [.c ((tI .i64).is parent.2.2), .c (tB.is (decide (parent.2.2 < (0 : Int)))), .c (tB.is (decide (parent.2.2 < (0 : Int)))), .c (Asn.eq undef), .c (Asn.eq undef), .c (Asn.eq undef), .c (tB.is true), .c (tB.is true), .c (Asn.eq undef), .c (Asn.eq undef), .c (Asn.eq undef), .c (Asn.eq undef), .c (Asn.eq undef), .c (tB.is true), .c (tB.is true), .c (Asn.eq undef), .c (Asn.eq undef), .c (Asn.eq undef), .c (Asn.eq undef), .c (Asn.eq undef), .c (Asn.eq undef), .c (Asn.eq undef), .c (Asn.eq undef), .c (Asn.eq undef), .c (Asn.eq undef), .c (Asn.eq undef), .c (Asn.eq undef), .c (Asn.eq undef), .c (tB.is true)] [([], [10]), ([0], []), ([1], []), ([2], [13]), ([2], [10]), ([2, 3, 4], []), ([2, 5], []), ([6], []), ([7], [8]), ([7, 8], []), ([7], [11]), ([7, 10], []), ([7, 9, 11], []), ([7, 12], []), ([13], []), ([14], [8]), ([14, 15], []), ([14], [10]), ([14, 16, 17], []), ([14, 18], []), ([14, 19], []), ([14], [8]), ([14, 21], []), ([14], [13]), ([14, 22, 23], []), ([14, 24], []), ([14, 25], []), ([14, 20, 26], []), ([14, 27], [])] Try.mixed rfl rfl rfl rfl (by exact ⟨.inr (Op1.move (.tmp rfl)), .inr (Op1.ltI (.tmp rfl) .i64), .inr (Op1.move (.tmp rfl)), .inr (dp rfl rfl rfl hb3), .inr (dp rfl rfl rfl hb3), .inr (dp rfl rfl rfl hb3), .inr (Op1.pickT (.tmp rfl) hb3 .bool), .inr (Op1.move (.tmp rfl)), .inr (dp rfl rfl rfl rfl), .inr (dp rfl rfl rfl rfl), .inr (dp rfl rfl rfl rfl), .inr (dp rfl rfl rfl rfl), .inr (dp rfl rfl rfl rfl), .inr (Op1.pickT (.tmp rfl) rfl .bool), .inr (Op1.move (.tmp rfl)), .inr (dp rfl rfl rfl rfl), .inr (dp rfl rfl rfl rfl), .inr (dp rfl rfl rfl rfl), .inr (dp rfl rfl rfl rfl), .inr (dp rfl rfl rfl rfl), .inr (dp rfl rfl rfl rfl), .inr (dp rfl rfl rfl rfl), .inr (dp rfl rfl rfl rfl), .inr (dp rfl rfl rfl rfl), .inr (dp rfl rfl rfl rfl), .inr (dp rfl rfl rfl rfl), .inr (dp rfl rfl rfl rfl), .inr (dp rfl rfl rfl rfl), .inr (Op1.pickT (.tmp rfl) rfl .bool), trivial⟩) ?_
  refine WN.seq ?_
  refine W.condT (.tmp rfl) ?_
  refine W.sr ?_
  refine WL.mv rfl rfl ?_
  refine WL.gv rfl rfl ?_
  refine WL.ns ?_
  cases hm
  exact W.ret1 () rfl (Opd.own (.tmp rfl)) trivial
 ·have hp4 := of_decide_eq_false hb3
  rw [if_neg hp4] at hm
  rcases bcases (decide (parent1.2.2 < parent.2.2)) with hb5 | hb5
  ·have hp6 := of_decide_eq_true hb5
   rw [if_pos hp6] at hm
   refine W.draw [.c ((tI .i64).is parent.2.2), .c (tB.is (decide (parent.2.2 < (0 : Int)))), .c (tB.is (decide (parent.2.2 < (0 : Int)))), .c ((tI .i64).is parent1.2.2), .c ((tI .i64).is parent.2.2), .c (tB.is (decide (parent1.2.2 < parent.2.2))), .c (tB.is (decide (parent1.2.2 < parent.2.2))), .c (tB.is (decide (parent1.2.2 < parent.2.2))), .c (Asn.eq undef), .c (Asn.eq undef), .c (Asn.eq undef), .c (Asn.eq undef), .c (Asn.eq undef), .c (tB.is true), .c (tB.is true), .c (Asn.eq undef), .c (Asn.eq undef), .c (Asn.eq undef), .c (Asn.eq undef), .c (Asn.eq undef), .c (Asn.eq undef), .c (Asn.eq undef), .c (Asn.eq undef), .c (Asn.eq undef), .c (Asn.eq undef), .c (Asn.eq undef), .c (Asn.eq undef), .c (Asn.eq undef), .c (tB.is true)] [([], [10]), ([0], []), ([1], []), ([2], [13]), ([2], [10]), ([2, 3, 4], []), ([2, 5], []), ([6], []), ([7], [8]), ([7, 8], []), ([7], [11]), ([7, 10], []), ([7, 9, 11], []), ([7, 12], []), ([13], []), ([14], [8]), ([14, 15], []), ([14], [10]), ([14, 16, 17], []), ([14, 18], []), ([14, 19], []), ([14], [8]), ([14, 21], []), ([14], [13]), ([14, 22, 23], []), ([14, 24], []), ([14, 25], []), ([14, 20, 26], []), ([14, 27], [])] Try.mixed rfl rfl rfl rfl (by exact ⟨.inr (Op1.move (.tmp rfl)), .inr (Op1.ltI (.tmp rfl) .i64), .inr (Op1.move (.tmp rfl)), .inr (dr rfl rfl rfl hb3 (Op1.move (.tmp rfl))), .inr (dr rfl rfl rfl hb3 (Op1.move (.tmp rfl))), .inr (dr rfl rfl rfl hb3 (Op1.ltI (.tmp rfl) (.tmp rfl))), .inr (Op1.pickF (.tmp rfl) hb3 (.tmp rfl)), .inr (Op1.move (.tmp rfl)), .inr (dp rfl rfl rfl hb5), .inr (dp rfl rfl rfl hb5), .inr (dp rfl rfl rfl hb5), .inr (dp rfl rfl rfl hb5), .inr (dp rfl rfl rfl hb5), .inr (Op1.pickT (.tmp rfl) hb5 .bool), .inr (Op1.move (.tmp rfl)), .inr (dp rfl rfl rfl rfl), .inr (dp rfl rfl rfl rfl), .inr (dp rfl rfl rfl rfl), .inr (dp rfl rfl rfl rfl), .inr (dp rfl rfl rfl rfl), .inr (dp rfl rfl rfl rfl), .inr (dp rfl rfl rfl rfl), .inr (dp rfl rfl rfl rfl), .inr (dp rfl rfl rfl rfl), .inr (dp rfl rfl rfl rfl), .inr (dp rfl rfl rfl rfl), .inr (dp rfl rfl rfl rfl), .inr (dp rfl rfl rfl rfl), .inr (Op1.pickT (.tmp rfl) rfl .bool), trivial⟩) ?_
   refine WN.seq ?_
   refine W.condT (.tmp rfl) ?_
   refine W.sr ?_
   refine WL.mv rfl rfl ?_
   refine WL.gv rfl rfl ?_
   refine WL.ns ?_
   cases hm
   exact W.ret1 () rfl (Opd.own (.tmp rfl)) trivial
  ·have hp6 := of_decide_eq_false hb5
   rw [if_neg hp6] at hm
   rcases bcases (decide (parent.1.Id ≠ parent1.1.Id)) with hb7 | hb7
   ·have hp8 := of_decide_eq_true hb7
    rw [if_pos hp8] at hm
    refine W.draw [.c ((tI .i64).is parent.2.2), .c (tB.is (decide (parent.2.2 < (0 : Int)))), .c (tB.is (decide (parent.2.2 < (0 : Int)))), .c ((tI .i64).is parent1.2.2), .c ((tI .i64).is parent.2.2), .c (tB.is (decide (parent1.2.2 < parent.2.2))), .c (tB.is (decide (parent1.2.2 < parent.2.2))), .c (tB.is (decide (parent1.2.2 < parent.2.2))), .c (tapi_Id.ptr parent.1.Id), .c (tapi_Id.is parent.1.Id), .c (tapi_Id.ptr parent1.1.Id), .c (tapi_Id.is parent1.1.Id), .c (tB.is (decide (parent.1.Id ≠ parent1.1.Id))), .c (tB.is (decide (parent.1.Id ≠ parent1.1.Id))), .c (tB.is (decide (parent.1.Id ≠ parent1.1.Id))), .c (Asn.eq undef), .c (Asn.eq undef), .c (Asn.eq undef), .c (Asn.eq undef), .c (Asn.eq undef), .c (Asn.eq undef), .c (Asn.eq undef), .c (Asn.eq undef), .c (Asn.eq undef), .c (Asn.eq undef), .c (Asn.eq undef), .c (Asn.eq undef), .c (Asn.eq undef), .c (tB.is true)] [([], [10]), ([0], []), ([1], []), ([2], [13]), ([2], [10]), ([2, 3, 4], []), ([2, 5], []), ([6], []), ([7], [8]), ([7, 8], []), ([7], [11]), ([7, 10], []), ([7, 9, 11], []), ([7, 12], []), ([13], []), ([14], [8]), ([14, 15], []), ([14], [10]), ([14, 16, 17], []), ([14, 18], []), ([14, 19], []), ([14], [8]), ([14, 21], []), ([14], [13]), ([14, 22, 23], []), ([14, 24], []), ([14, 25], []), ([14, 20, 26], []), ([14, 27], [])] Try.mixed rfl rfl rfl rfl (by exact ⟨.inr (Op1.move (.tmp rfl)), .inr (Op1.ltI (.tmp rfl) .i64), .inr (Op1.move (.tmp rfl)), .inr (dr rfl rfl rfl hb3 (Op1.move (.tmp rfl))), .inr (dr rfl rfl rfl hb3 (Op1.move (.tmp rfl))), .inr (dr rfl rfl rfl hb3 (Op1.ltI (.tmp rfl) (.tmp rfl))), .inr (Op1.pickF (.tmp rfl) hb3 (.tmp rfl)), .inr (Op1.move (.tmp rfl)), .inr (dr rfl rfl rfl hb5 (Op1.fieldAddr Try.underlying27 rfl (fun w => ⟨2, Try.sizeOf23 w⟩) fapi_Unit_0 (.tmp rfl))), .inr (dr rfl rfl rfl hb5 (Op1.load ty23 (.tmp rfl))), .inr (dr rfl rfl rfl hb5 (Op1.fieldAddr Try.underlying27 rfl (fun w => ⟨2, Try.sizeOf23 w⟩) fapi_Unit_0 (.tmp rfl))), .inr (dr rfl rfl rfl hb5 (Op1.load ty23 (.tmp rfl))), .inr (dr rfl rfl rfl hb5 (Op1.neSt (D := 2) rfl (by decide) eg23 eq23 (.tmp rfl) (.tmp rfl))), .inr (Op1.pickF (.tmp rfl) hb5 (.tmp rfl)), .inr (Op1.move (.tmp rfl)), .inr (dp rfl rfl rfl hb7), .inr (dp rfl rfl rfl hb7), .inr (dp rfl rfl rfl hb7), .inr (dp rfl rfl rfl hb7), .inr (dp rfl rfl rfl hb7), .inr (dp rfl rfl rfl hb7), .inr (dp rfl rfl rfl hb7), .inr (dp rfl rfl rfl hb7), .inr (dp rfl rfl rfl hb7), .inr (dp rfl rfl rfl hb7), .inr (dp rfl rfl rfl hb7), .inr (dp rfl rfl rfl hb7), .inr (dp rfl rfl rfl hb7), .inr (Op1.pickT (.tmp rfl) hb7 .bool), trivial⟩) ?_
    refine WN.seq ?_
    refine W.condT (.tmp rfl) ?_
    refine W.sr ?_
    refine WL.mv rfl rfl ?_
    refine WL.gv rfl rfl ?_
    refine WL.ns ?_
    cases hm
    exact W.ret1 () rfl (Opd.own (.tmp rfl)) trivial
   ·have hp8 := of_decide_eq_false hb7
    rw [if_neg hp8] at hm
    obtain ⟨v, hv9, hm⟩ := bind_some hm
    obtain ⟨v1, hv10, hm⟩ := bind_some hm
    refine W.draw [.c ((tI .i64).is parent.2.2), .c (tB.is (decide (parent.2.2 < (0 : Int)))), .c (tB.is (decide (parent.2.2 < (0 : Int)))), .c ((tI .i64).is parent1.2.2), .c ((tI .i64).is parent.2.2), .c (tB.is (decide (parent1.2.2 < parent.2.2))), .c (tB.is (decide (parent1.2.2 < parent.2.2))), .c (tB.is (decide (parent1.2.2 < parent.2.2))), .c (tapi_Id.ptr parent.1.Id), .c (tapi_Id.is parent.1.Id), .c (tapi_Id.ptr parent1.1.Id), .c (tapi_Id.is parent1.1.Id), .c (tB.is (decide (parent.1.Id ≠ parent1.1.Id))), .c (tB.is (decide (parent.1.Id ≠ parent1.1.Id))), .c (tB.is (decide (parent.1.Id ≠ parent1.1.Id))), .c ((tL tapi_Unit).ptr parent.1.Kids), .c ((tL tapi_Unit).is parent.1.Kids), .c ((tI .i64).is parent.2.2), .c (tapi_Unit.ptr v), .c ((tI .i64).ptr v.Kind), .c ((tI .i64).is v.Kind), .c ((tL tapi_Unit).ptr parent.1.Kids), .c ((tL tapi_Unit).is parent.1.Kids), .c ((tI .i64).is parent1.2.2), .c (tapi_Unit.ptr v1), .c ((tI .i64).ptr v1.Kind), .c ((tI .i64).is v1.Kind), .c (tB.is (decide (v.Kind ≠ v1.Kind))), .c (tB.is (decide (v.Kind ≠ v1.Kind)))] [([], [10]), ([0], []), ([1], []), ([2], [13]), ([2], [10]), ([2, 3, 4], []), ([2, 5], []), ([6], []), ([7], [8]), ([7, 8], []), ([7], [11]), ([7, 10], []), ([7, 9, 11], []), ([7, 12], []), ([13], []), ([14], [8]), ([14, 15], []), ([14], [10]), ([14, 16, 17], []), ([14, 18], []), ([14, 19], []), ([14], [8]), ([14, 21], []), ([14], [13]), ([14, 22, 23], []), ([14, 24], []), ([14, 25], []), ([14, 20, 26], []), ([14, 27], [])] Try.mixed rfl rfl rfl rfl (by exact ⟨.inr (Op1.move (.tmp rfl)), .inr (Op1.ltI (.tmp rfl) .i64), .inr (Op1.move (.tmp rfl)), .inr (dr rfl rfl rfl hb3 (Op1.move (.tmp rfl))), .inr (dr rfl rfl rfl hb3 (Op1.move (.tmp rfl))), .inr (dr rfl rfl rfl hb3 (Op1.ltI (.tmp rfl) (.tmp rfl))), .inr (Op1.pickF (.tmp rfl) hb3 (.tmp rfl)), .inr (Op1.move (.tmp rfl)), .inr (dr rfl rfl rfl hb5 (Op1.fieldAddr Try.underlying27 rfl (fun w => ⟨2, Try.sizeOf23 w⟩) fapi_Unit_0 (.tmp rfl))), .inr (dr rfl rfl rfl hb5 (Op1.load ty23 (.tmp rfl))), .inr (dr rfl rfl rfl hb5 (Op1.fieldAddr Try.underlying27 rfl (fun w => ⟨2, Try.sizeOf23 w⟩) fapi_Unit_0 (.tmp rfl))), .inr (dr rfl rfl rfl hb5 (Op1.load ty23 (.tmp rfl))), .inr (dr rfl rfl rfl hb5 (Op1.neSt (D := 2) rfl (by decide) eg23 eq23 (.tmp rfl) (.tmp rfl))), .inr (Op1.pickF (.tmp rfl) hb5 (.tmp rfl)), .inr (Op1.move (.tmp rfl)), .inr (dr rfl rfl rfl hb7 (Op1.fieldAddr Try.underlying27 rfl (fun w => ⟨0, Try.sizeOf25 w⟩) fapi_Unit_5 (.tmp rfl))), .inr (dr rfl rfl rfl hb7 (Op1.load ty25 (.tmp rfl))), .inr (dr rfl rfl rfl hb7 (Op1.move (.tmp rfl))), .inr (dr rfl rfl rfl hb7 (Op1.idx hv9 Try.underlying25 Try.sizeOf27 (.tmp rfl) (.tmp rfl))), .inr (dr rfl rfl rfl hb7 (Op1.fieldAddr Try.underlying27 rfl (fun w => ⟨0, Try.sizeOf3 w⟩) fapi_Unit_1 (.tmp rfl))), .inr (dr rfl rfl rfl hb7 (Op1.load ty3 (.tmp rfl))), .inr (dr rfl rfl rfl hb7 (Op1.fieldAddr Try.underlying27 rfl (fun w => ⟨0, Try.sizeOf25 w⟩) fapi_Unit_5 (.tmp rfl))), .inr (dr rfl rfl rfl hb7 (Op1.load ty25 (.tmp rfl))), .inr (dr rfl rfl rfl hb7 (Op1.move (.tmp rfl))), .inr (dr rfl rfl rfl hb7 (Op1.idx hv10 Try.underlying25 Try.sizeOf27 (.tmp rfl) (.tmp rfl))), .inr (dr rfl rfl rfl hb7 (Op1.fieldAddr Try.underlying27 rfl (fun w => ⟨0, Try.sizeOf3 w⟩) fapi_Unit_1 (.tmp rfl))), .inr (dr rfl rfl rfl hb7 (Op1.load ty3 (.tmp rfl))), .inr (dr rfl rfl rfl hb7 (Op1.neI (.tmp rfl) (.tmp rfl))), .inr (Op1.pickF (.tmp rfl) hb7 (.tmp rfl)), trivial⟩) ?_
    refine WN.seq ?_
    refine W.cond (.tmp rfl) (fun hc11 => ?_) (fun hc11 => ?_)
    ·have hp12 := of_decide_eq_true hc11
     rw [if_pos hp12] at hm
     refine W.sr ?_
     refine WL.mv rfl rfl ?_
     refine WL.gv rfl rfl ?_
     refine WL.ns ?_
     cases hm
     exact W.ret1 () rfl (Opd.own (.tmp rfl)) trivial
    ·have hp12 := of_decide_eq_false hc11
     rw [if_neg hp12] at hm
     refine W.skip ?_
     refine WN.seq ?_
     refine W.seq ?_
     refine W.sr ?_
     refine WL.mv rfl rfl ?_
     refine WL.gv rfl rfl ?_
     refine WL.ns ?_
     refine W.block ?_
     obtain ⟨s13, hs14, hk15⟩ := bind_some hm
     clear hm
     refine W.loop (fun m (s : ((List api_Id) × Int) × Tok) => M.r41_Between_loop1 parent parent1 m s.1.1 s.1.2 = some s13) (fun s => [(7, (tO tapi_Id s.2 s.1.1)), (14, ((tI .i64).is s.1.2)), (8, (tapi_Unit.ptr parent.1)), (10, ((tI .i64).is parent.2.2)), (13, ((tI .i64).is parent1.2.2))]) (fun s => [(15, Dec.Own tapi_Id 23 s.2 s.1.1.length)]) _ ((([] : List api_Id), parent.2.2), k) hs14 ⟨Ent.q rfl, Ent.q rfl, Ent.q rfl, Ent.q rfl, Ent.q rfl, trivial⟩ ⟨rfl, rfl, trivial⟩ ?_
     rintro n16 ⟨⟨out, i⟩, k1⟩ hm
     try dsimp only at hm
     change W _ _ _ _ _ _ _ [(7, (tO tapi_Id k1 out)), (14, ((tI .i64).is i)), (8, (tapi_Unit.ptr parent.1)), (10, ((tI .i64).is parent.2.2)), (13, ((tI .i64).is parent1.2.2))] [(15, Dec.Own tapi_Id 23 k1 out.length)]
     cases n16 with
     | zero => rw [M.r41_Between_loop1.eq_1] at hm; cases hm
     | succ n16 =>
      rw [M.r41_Between_loop1.eq_2] at hm
      refine W.seq ?_
      refine W.sr ?_
      refine WL.mv rfl rfl ?_
      refine WL.mv rfl rfl ?_
      refine WL.op rfl (.leI (.tmp rfl) (.tmp rfl)) ?_
      refine WL.ns ?_
      refine W.cond (.tmp rfl) (fun hc17 => ?_) (fun hc17 => ?_)
      ·have hp18 := of_decide_eq_true hc17
       rw [if_pos hp18] at hm
       refine W.skip ?_
       refine WN.seq ?_
       refine W.seq ?_
       refine W.block ?_
       refine W.seq ?_
       obtain ⟨v2, hv19, hm⟩ := bind_some hm
       obtain ⟨v3, hv20, hm⟩ := bind_some hm
       refine W.draw [.c ((tL tapi_Unit).ptr parent.1.Kids), .c ((tL tapi_Unit).is parent.1.Kids), .c ((tI .i64).is i), .c (tapi_Unit.ptr v2), .c ((tI .i64).ptr v2.Kind), .c ((tI .i64).is v2.Kind), .c ((tL tapi_Unit).ptr parent.1.Kids), .c ((tL tapi_Unit).is parent.1.Kids), .c ((tI .i64).is parent.2.2), .c (tapi_Unit.ptr v3), .c ((tI .i64).ptr v3.Kind), .c ((tI .i64).is v3.Kind), .c (tB.is (decide (v2.Kind = v3.Kind)))] [([], [8]), ([0], []), ([], [14]), ([1, 2], []), ([3], []), ([4], []), ([], [8]), ([6], []), ([], [10]), ([7, 8], []), ([9], []), ([10], []), ([5, 11], [])] Try.mixed rfl rfl rfl rfl ⟨.inr (Op1.fieldAddr Try.underlying27 rfl (fun w => ⟨0, Try.sizeOf25 w⟩) fapi_Unit_5 (.tmp rfl)), .inr (Op1.load ty25 (.tmp rfl)), .inr (Op1.move (.tmp rfl)), .inr (Op1.idx hv19 Try.underlying25 Try.sizeOf27 (.tmp rfl) (.tmp rfl)), .inr (Op1.fieldAddr Try.underlying27 rfl (fun w => ⟨0, Try.sizeOf3 w⟩) fapi_Unit_1 (.tmp rfl)), .inr (Op1.load ty3 (.tmp rfl)), .inr (Op1.fieldAddr Try.underlying27 rfl (fun w => ⟨0, Try.sizeOf25 w⟩) fapi_Unit_5 (.tmp rfl)), .inr (Op1.load ty25 (.tmp rfl)), .inr (Op1.move (.tmp rfl)), .inr (Op1.idx hv20 Try.underlying25 Try.sizeOf27 (.tmp rfl) (.tmp rfl)), .inr (Op1.fieldAddr Try.underlying27 rfl (fun w => ⟨0, Try.sizeOf3 w⟩) fapi_Unit_1 (.tmp rfl)), .inr (Op1.load ty3 (.tmp rfl)), .inr (Op1.eqI (.tmp rfl) (.tmp rfl)), trivial⟩ ?_
       refine WN.seq ?_
       refine W.cond (.tmp rfl) (fun hc21 => ?_) (fun hc21 => ?_)
       ·have hp22 := of_decide_eq_true hc21
        rw [if_pos hp22] at hm
        refine W.region ?_
        refine WL.mv rfl rfl ?_
        refine WL.op rfl (.fieldAddr Try.underlying27 rfl (fun w => ⟨0, Try.sizeOf25 w⟩) fapi_Unit_5 (.tmp rfl)) ?_
        refine WL.op rfl (.load ty25 (.tmp rfl)) ?_
        refine WL.mv rfl rfl ?_
        obtain ⟨v4, hv23, hm⟩ := bind_some hm
        refine WL.op rfl (.idx hv23 Try.underlying25 Try.sizeOf27 (.tmp rfl) (.tmp rfl)) ?_
        refine WL.op rfl (.fieldAddr Try.underlying27 rfl (fun w => ⟨2, Try.sizeOf23 w⟩) fapi_Unit_0 (.tmp rfl)) ?_
        refine WL.op rfl (.load ty23 (.tmp rfl)) ?_
        refine WL.op rfl (.buildSlice (n := 1) (ys := [(0, v4.Id)]) (z := zapi_Id) (xs := [v4.Id]) Try.underlying31 el23 ze23 ⟨rfl, (.tmp rfl), trivial⟩ (by simp) (by decide) rfl) ?_
        obtain ⟨out1, hv24, hm⟩ := bind_some hm
        refine WL.opR rfl (OpR.appC (key := 15) hv24 Try.underlying31 el23 (.tmp rfl) (.tmp rfl) rfl) (fun k2 => ?_)
        refine WL.gv rfl rfl ?_
        refine WL.nil ?_
        refine WN.block ?_
        refine WN.seq ?_
        refine W.region ?_
        refine WL.mv rfl rfl ?_
        obtain ⟨v5, hv25, hm⟩ := bind_some hm
        refine WL.op rfl (.addC hv25 (.tmp rfl) .i64) ?_
        refine WL.gv rfl rfl ?_
        refine WL.nil ?_
        exact WN.again n16 ((out1, v5), k2) (Nat.lt_succ_self n16) hm ⟨Ent.q rfl, Ent.q rfl, Ent.q rfl, Ent.q rfl, Ent.q rfl, trivial⟩ ⟨rfl, rfl, trivial⟩
       ·have hp22 := of_decide_eq_false hc21
        rw [if_neg hp22] at hm
        refine W.skip ?_
        refine WN.block ?_
        refine WN.seq ?_
        refine W.region ?_
        refine WL.mv rfl rfl ?_
        obtain ⟨v6, hv26, hm⟩ := bind_some hm
        refine WL.op rfl (.addC hv26 (.tmp rfl) .i64) ?_
        refine WL.gv rfl rfl ?_
        refine WL.nil ?_
        exact WN.again n16 ((out, v6), k1) (Nat.lt_succ_self n16) hm ⟨Ent.q rfl, Ent.q rfl, Ent.q rfl, Ent.q rfl, Ent.q rfl, trivial⟩ ⟨rfl, rfl, trivial⟩
      ·have hp18 := of_decide_eq_false hc17
       rw [if_neg hp18] at hm
       refine W.exit rfl ?_
       have hr27 := Option.some.inj hm
       clear hm
       subst hr27
       have hm := hk15
       try dsimp only at hm
       refine WN.seq ?_
       refine W.sr ?_
       refine WL.mv rfl rfl ?_
       refine WL.gv rfl rfl ?_
       refine WL.ns ?_
       cases hm
       exact W.ret1 () rfl (Opd.own (.tmp rfl)) trivial

end Go.Proofs.Ytlegkjbldofkmaa
