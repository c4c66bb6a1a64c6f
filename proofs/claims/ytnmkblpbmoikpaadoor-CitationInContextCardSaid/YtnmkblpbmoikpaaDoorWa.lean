/-
  The code does what the models say: written by program.
-/
import Derived.Test.YtnmkblpbmoikpaaDoorBd
set_option linter.unusedVariables false
set_option linter.unusedSimpArgs false
namespace Go.Proofs.YtnmkblpbmoikpaaDoor
open Go Go.Dec
set_option maxRecDepth 100000
set_option maxHeartbeats 4000000
theorem law20_wide_spec (c : api_Cite) (r : Bool) (hm : M.law20_wide c = some r) : FSpec Tryd.prog 10 [(tapi_Cite.is c)] (tB.is r) := by
 unfold M.law20_wide at hm
 refine FSpec.of Tryd.func10 rfl rfl rfl (fun g0 => ?_)
 refine W.sr ?_
 refine WL.op rfl (.box (.tmp rfl)) ?_
 refine WL.op rfl (.assign .bool) ?_
 refine WL.nr ?_
 refine WL.op rfl (.fieldAddr Tryd.underlying24 rfl (fun w => ⟨0, Tryd.sizeOf9 w⟩) fapi_Cite_2 (.tmp rfl)) ?_
 refine WL.op rfl (.load ty9 (.tmp rfl)) ?_
 refine WL.op rfl (.lenS Tryd.underlying9 (.tmp rfl)) ?_
 refine WL.gv rfl rfl ?_
 refine WL.ns ?_
 refine W.seq ?_
 refine W.sr ?_
 refine WL.op rfl (.fieldAddr Tryd.underlying24 rfl (fun w => ⟨0, Tryd.sizeOf22 w⟩) fapi_Cite_1 (.tmp rfl)) ?_
 refine WL.op rfl (.load ty22 (.tmp rfl)) ?_
 refine WL.op rfl (.lenL Tryd.underlying22 (.tmp rfl)) ?_
 refine WL.op rfl (.move .i64) ?_
 refine WL.ns ?_
 refine W.block ?_
 obtain ⟨s1, hs2, hk3⟩ := bind_some hm
 clear hm
 refine W.loop (fun m (s : Int × List api_Step × List api_Step × Int) => m = s.2.2.1.length ∧ c.Path = s.2.1 ++ s.2.2.1 ∧ s.1 = (s.2.1.length : Int) ∧ M.law20_wide_loop1 s.2.2.1 s.2.2.2 = some s1) (fun s => [(12, ((tI .i64).is s.1)), (3, ((tI .i64).is s.2.2.2)), (1, (tapi_Cite.ptr c)), (10, ((tL tapi_Step).is c.Path)), (11, ((tI .i64).is (c.Path.length : Int)))]) (fun s => []) c.Path.length ((0 : Int), [], c.Path, (c.To.length : Int)) ⟨rfl, rfl, rfl, hs2⟩ ⟨Ent.q rfl, Ent.q rfl, Ent.q rfl, Ent.q rfl, Ent.q rfl, trivial⟩ trivial ?_
 rintro m ⟨i, pre, rest1, n0_⟩ ⟨hn7, hxs4, hi5, hm⟩
 try dsimp only at hn7 hxs4 hi5 hm
 change W _ _ _ _ _ _ _ [(12, ((tI .i64).is i)), (3, ((tI .i64).is n0_)), (1, (tapi_Cite.ptr c)), (10, ((tL tapi_Step).is c.Path)), (11, ((tI .i64).is (c.Path.length : Int)))] []
 refine W.lenL (s := 10) (.tmp rfl) fun hlen6 => ?_
 refine W.sr ?_
 refine WL.op rfl (.ltI (.tmp rfl) (.tmp rfl)) ?_
 refine WL.ns ?_
 refine W.seq ?_
 refine W.cond (.tmp rfl) (fun hc9 => ?_) (fun hc9 => ?_)
 ·have hp10 := of_decide_eq_true hc9
  obtain ⟨e, es, hrest12⟩ := range_more hxs4 hi5 hp10
  subst hrest12
  rw [M.law20_wide_loop1.eq_2] at hm
  refine W.skip ?_
  refine WN.seq ?_
  refine W.seq ?_
  refine W.block ?_
  refine W.sr ?_
  refine WL.op rfl (.idxPre hxs4 hi5 Tryd.underlying22 Tryd.sizeOf50 (.tmp rfl) (.tmp rfl)) ?_
  refine WL.op rfl (.load ty50 (.tmp rfl)) ?_
  refine WL.opR rfl (OpR.alloc 5 ze50) (fun b => ?_)
  refine WL.opU (OpR.storeB (b := b) 5 Tryd.sizeOf50 (Cellable.is tapi_Step e) rfl (.tmp rfl) (.tmp rfl)) (fun _ => ?_)
  refine WL.sealed (t := tapi_Step) (u := e) 5 5 rfl rfl ?_
  refine WL.nr1 ?_
  refine WL.mv rfl rfl ?_
  refine WL.op rfl (.fieldAddr Tryd.underlying50 rfl (fun w => ⟨0, Tryd.sizeOf9 w⟩) fapi_Step_1 (.tmp rfl)) ?_
  refine WL.op rfl (.load ty9 (.tmp rfl)) ?_
  refine WL.op rfl (.lenS Tryd.underlying9 (.tmp rfl)) ?_
  refine WL.op rfl (.addW64 (.tmp rfl) (.tmp rfl)) ?_
  refine WL.gv rfl rfl ?_
  refine WL.nil ?_
  refine WN.block ?_
  refine WN.seq ?_
  refine W.region ?_
  refine WL.op rfl (.addI (.tmp rfl) .i64 (range_inR hi5 hp10 hlen6)) ?_
  refine WL.mv rfl rfl ?_
  refine WL.nil ?_
  exact WN.again es.length (i + 1, pre ++ [e], es, wrap64 (n0_ + (e.Label.length : Int))) (range_lt hn7) ⟨rfl, range_step hxs4, range_idx hi5, hm⟩ ⟨Ent.q rfl, Ent.q rfl, Ent.q rfl, Ent.q rfl, Ent.q rfl, trivial⟩ trivial
 ·have hrest12 := range_end hxs4 hi5 (of_decide_eq_false hc9)
  subst hrest12
  rw [M.law20_wide_loop1.eq_1] at hm
  refine W.exit rfl ?_
  have hr13 := Option.some.inj hm
  clear hm
  subst hr13
  have hm := hk3
  try dsimp only at hm
  refine WN.seq ?_
  refine W.sr ?_
  refine WL.op rfl (.fieldAddr Tryd.underlying24 rfl (fun w => ⟨0, Tryd.sizeOf22 w⟩) fapi_Cite_1 (.tmp rfl)) ?_
  refine WL.op rfl (.load ty22 (.tmp rfl)) ?_
  refine WL.op rfl (.lenL Tryd.underlying22 (.tmp rfl)) ?_
  refine WL.op rfl (.gtI (.tmp rfl) .i64) ?_
  refine WL.mv rfl rfl ?_
  rcases bcases (decide ((12 : Int) < (c.Path.length : Int))) with hb14 | hb14
  ·have hp15 := of_decide_eq_true hb14
   rw [if_pos hp15] at hm
   iterate 2 refine WL.pass rfl rfl rfl rfl hb14 rfl rfl ?_
   refine WL.op rfl (.pickT (.tmp rfl) hb14 .bool) ?_
   refine WL.gv rfl rfl ?_
   refine WL.ns ?_
   cases hm
   exact W.ret1 () rfl (.tmp rfl) trivial
  ·have hp15 := of_decide_eq_false hb14
   rw [if_neg hp15] at hm
   refine WL.run rfl rfl rfl rfl hb14 rfl rfl (Op1.move (.tmp rfl)) ?_
   refine WL.run rfl rfl rfl rfl hb14 rfl rfl (Op1.gtI (.tmp rfl) .i64) ?_
   refine WL.op rfl (.pickF (.tmp rfl) hb14 (.tmp rfl)) ?_
   refine WL.gv rfl rfl ?_
   refine WL.ns ?_
   cases hm
   exact W.ret1 () rfl (.tmp rfl) trivial
theorem citation_reader_just_1_spec (s0_ : Str) (c : Str) (r : Bool) (hm : M.citation_reader_just_1 s0_ c = some r) : FSpec Tryd.prog 87 [(tS.is s0_), (tS.ptr c)] (tB.is r) := by
 unfold M.citation_reader_just_1 at hm
 refine FSpec.of Tryd.func87 rfl rfl rfl (fun g0 => ?_)
 refine W.sr ?_
 refine WL.op rfl (.assign .bool) ?_
 refine WL.nr ?_
 refine WL.mv rfl rfl ?_
 refine WL.op rfl (.load ty9 (.tmp rfl)) ?_
 refine WL.op rfl (.eqS (.tmp rfl) (.tmp rfl)) ?_
 refine WL.gv rfl rfl ?_
 refine WL.ns ?_
 cases hm
 exact W.ret1 () rfl (.tmp rfl) trivial
theorem strings_IndexByte_spec (s : Str) (c r : Int) (hm : ixM s c = some r) : FSpec Tryd.prog 93 [tS.is s, (tI .u8).is c] ((tI .i64).is r) :=
 indexByte_spec (fun s c w => Tryd.strings_IndexByte s c w) s c r hm
theorem citation_reader_word_spec (r0_ : citation_reader) (is : Str → Option Bool) (b : Nat) (r : (Str × Bool) × citation_reader) (hm : M.citation_reader_word r0_ is = some r) : FSpecR Tryd.prog 86 [(Bp b 0), (tF Tryd.prog (fun s : Str × Bool => is s.1 = some s.2) (fun s : Str × Bool => [tS.is s.1]) (fun s : Str × Bool => (tB.is s.2)))] [(0, (Bx 3 true 79 (tcitation_reader.is r0_) b))] (fun kx : Unit => (Asn.tuple2 (tS.is r.1.1) (tB.is r.1.2))) (fun kx : Unit => [(0, (Bx 3 true 79 (tcitation_reader.is r.2) b))]) := by
 unfold M.citation_reader_word at hm
 refine FSpecR.of Tryd.func86 rfl rfl rfl (fun g0 => ?_)
 refine W.sr ?_
 refine WL.op rfl (.assign (.str rfl (by decide))) ?_
 refine WL.op rfl (.assign .bool) ?_
 refine WL.ns ?_
 refine W.seq ?_
 refine W.seq ?_
 rcases bcases (r0_.ended_) with hb1 | hb1
 ·have hp2 := hb1
  rw [if_pos hp2] at hm
  refine W.draw [.c (Bp b 0), .c (Bp b 0), .c (Bp b 2), .c (tB.is r0_.ended_), .c (tB.is r0_.ended_), .c (Asn.eq undef), .c (Asn.eq undef), .c (Asn.eq undef), .c (Asn.eq undef), .c (Asn.eq undef), .c (Asn.eq undef), .c (Asn.eq undef), .c (Asn.eq undef), .c (Asn.eq undef), .c (Asn.eq undef), .c (tB.is true)] [([], [0]), ([0], []), ([1], []), ([2], []), ([3], []), ([4], [0]), ([4, 5], []), ([4, 6], []), ([4, 7], []), ([4], [0]), ([4, 9], []), ([4, 10], []), ([4, 11], []), ([4, 12], []), ([4, 8, 13], []), ([4, 14], [])] Tryd.mixed rfl rfl rfl rfl ⟨.inr (Op1.move (.tmp rfl)), .inr (Op1.nilCheckB (.tmp rfl)), .inr (Op1.fieldAddrB (o := 0) Tryd.underlying79 rfl (fun w => ⟨0, Tryd.sizeOf4 w⟩) (.tmp rfl) rfl), .inr (Op1.loadBF 0 rfl ty4 fcitation_reader_2 rfl (.tmp rfl)), .inr (Op1.move (.tmp rfl)), .inr (dp rfl rfl rfl hb1), .inr (dp rfl rfl rfl hb1), .inr (dp rfl rfl rfl hb1), .inr (dp rfl rfl rfl hb1), .inr (dp rfl rfl rfl hb1), .inr (dp rfl rfl rfl hb1), .inr (dp rfl rfl rfl hb1), .inr (dp rfl rfl rfl hb1), .inr (dp rfl rfl rfl hb1), .inr (dp rfl rfl rfl hb1), .inr (Op1.pickT (.tmp rfl) hb1 .bool), trivial⟩ ?_
  refine WN.seq ?_
  refine W.condT (.tmp rfl) ?_
  refine W.sr ?_
  refine WL.op rfl (.assign (.str rfl (by decide))) ?_
  refine WL.op rfl (.assign .bool) ?_
  refine WL.ns ?_
  cases hm
  exact W.ret2 () rfl rfl (.tmp rfl) (.tmp rfl) ⟨rfl, rfl, trivial⟩
 ·have hp2 := ne_of_false hb1
  rw [if_neg hp2] at hm
  refine W.draw [.c (Bp b 0), .c (Bp b 0), .c (Bp b 2), .c (tB.is r0_.ended_), .c (tB.is r0_.ended_), .c (Bp b 0), .c (Bp b 0), .c (Bp b 1), .c ((tI .i64).is r0_.at_), .c (Bp b 0), .c (Bp b 0), .c (Bp b 0), .c ((tL tS).is r0_.l_), .c ((tI .i64).is (r0_.l_.length : Int)), .c (tB.is (decide ((r0_.l_.length : Int) ≤ r0_.at_))), .c (tB.is (decide ((r0_.l_.length : Int) ≤ r0_.at_)))] [([], [0]), ([0], []), ([1], []), ([2], []), ([3], []), ([4], [0]), ([4, 5], []), ([4, 6], []), ([4, 7], []), ([4], [0]), ([4, 9], []), ([4, 10], []), ([4, 11], []), ([4, 12], []), ([4, 8, 13], []), ([4, 14], [])] Tryd.mixed rfl rfl rfl rfl ⟨.inr (Op1.move (.tmp rfl)), .inr (Op1.nilCheckB (.tmp rfl)), .inr (Op1.fieldAddrB (o := 0) Tryd.underlying79 rfl (fun w => ⟨0, Tryd.sizeOf4 w⟩) (.tmp rfl) rfl), .inr (Op1.loadBF 0 rfl ty4 fcitation_reader_2 rfl (.tmp rfl)), .inr (Op1.move (.tmp rfl)), .inr (dr rfl rfl rfl hb1 (Op1.move (.tmp rfl))), .inr (dr rfl rfl rfl hb1 (Op1.nilCheckB (.tmp rfl))), .inr (dr rfl rfl rfl hb1 (Op1.fieldAddrB (o := 0) Tryd.underlying79 rfl (fun w => ⟨0, Tryd.sizeOf3 w⟩) (.tmp rfl) rfl)), .inr (dr rfl rfl rfl hb1 (Op1.loadBF 0 rfl ty3 fcitation_reader_1 rfl (.tmp rfl))), .inr (dr rfl rfl rfl hb1 (Op1.move (.tmp rfl))), .inr (dr rfl rfl rfl hb1 (Op1.nilCheckB (.tmp rfl))), .inr (dr rfl rfl rfl hb1 (Op1.fieldAddrB (o := 0) Tryd.underlying79 rfl (fun w => ⟨0, Tryd.sizeOf28 w⟩) (.tmp rfl) rfl)), .inr (dr rfl rfl rfl hb1 (Op1.loadBF 0 rfl ty28 fcitation_reader_0 rfl (.tmp rfl))), .inr (dr rfl rfl rfl hb1 (Op1.lenL Tryd.underlying28 (.tmp rfl))), .inr (dr rfl rfl rfl hb1 (Op1.geI (.tmp rfl) (.tmp rfl))), .inr (Op1.pickF (.tmp rfl) hb1 (.tmp rfl)), trivial⟩ ?_
  refine WN.seq ?_
  refine W.cond (.tmp rfl) (fun hc3 => ?_) (fun hc3 => ?_)
  ·have hp4 := of_decide_eq_true hc3
   rw [if_pos hp4] at hm
   refine W.sr ?_
   refine WL.op rfl (.assign (.str rfl (by decide))) ?_
   refine WL.op rfl (.assign .bool) ?_
   refine WL.ns ?_
   cases hm
   exact W.ret2 () rfl rfl (.tmp rfl) (.tmp rfl) ⟨rfl, rfl, trivial⟩
  ·have hp4 := of_decide_eq_false hc3
   rw [if_neg hp4] at hm
   refine W.skip ?_
   refine WN.seq ?_
   refine W.seq ?_
   obtain ⟨v, hv5, hm⟩ := bind_some hm
   refine W.draw [.c (Bp b 0), .c (Bp b 0), .c (Bp b 0), .c ((tL tS).is r0_.l_), .c (Bp b 0), .c (Bp b 0), .c (Bp b 1), .c ((tI .i64).is r0_.at_), .c (tS.ptr v), .c (tS.is v), .c (tS.is v)] [([], [0]), ([0], []), ([1], []), ([2], []), ([], [0]), ([4], []), ([5], []), ([6], []), ([3, 7], []), ([8], []), ([9], [])] Tryd.mixed rfl rfl rfl rfl ⟨.inr (Op1.move (.tmp rfl)), .inr (Op1.nilCheckB (.tmp rfl)), .inr (Op1.fieldAddrB (o := 0) Tryd.underlying79 rfl (fun w => ⟨0, Tryd.sizeOf28 w⟩) (.tmp rfl) rfl), .inr (Op1.loadBF 0 rfl ty28 fcitation_reader_0 rfl (.tmp rfl)), .inr (Op1.move (.tmp rfl)), .inr (Op1.nilCheckB (.tmp rfl)), .inr (Op1.fieldAddrB (o := 0) Tryd.underlying79 rfl (fun w => ⟨0, Tryd.sizeOf3 w⟩) (.tmp rfl) rfl), .inr (Op1.loadBF 0 rfl ty3 fcitation_reader_1 rfl (.tmp rfl)), .inr (Op1.idx hv5 Tryd.underlying28 Tryd.sizeOf9 (.tmp rfl) (.tmp rfl)), .inr (Op1.load ty9 (.tmp rfl)), .inr (Op1.assign (.tmp rfl)), trivial⟩ ?_
   refine WN.seq ?_
   obtain ⟨s6, hs7, hk8⟩ := bind_some hm
   clear hm
   refine W.join (fun s : Str × citation_reader => (Sum.inl s : (Str × citation_reader) ⊕ ((Str × Bool) × citation_reader)) = s6) (fun s => [(6, (tS.is s.1)), (0, (Bp b 0))]) (fun s => [(0, (Bx 3 true 79 (tcitation_reader.is s.2) b))]) ?_ ?_
   ·rintro ⟨s0_, r0_1⟩ hj30
    try dsimp only at hj30
    subst hj30
    have hm := hk8
    clear hk8
    try dsimp only at hm
    change W _ _ _ _ _ _ _ [(6, (tS.is s0_)), (0, (Bp b 0))] [(0, (Bx 3 true 79 (tcitation_reader.is r0_1) b))]
    refine W.sr ?_
    refine WL.mv rfl rfl ?_
    refine WL.op rfl (.nilCheckB (.tmp rfl)) ?_
    refine WL.op rfl (.fieldAddrB (o := 0) Tryd.underlying79 rfl (fun w => ⟨0, Tryd.sizeOf3 w⟩) (.tmp rfl) rfl) ?_
    refine WL.op rfl (.loadBF 0 rfl ty3 fcitation_reader_1 rfl (.tmp rfl)) ?_
    obtain ⟨v7, hv29, hm⟩ := bind_some hm
    refine WL.op rfl (.addC hv29 (.tmp rfl) .i64) ?_
    refine WL.op rfl (.nilCheckB (.tmp rfl)) ?_
    refine WL.op rfl (.fieldAddrB (o := 0) Tryd.underlying79 rfl (fun w => ⟨0, Tryd.sizeOf3 w⟩) (.tmp rfl) rfl) ?_
    refine WL.opU (OpR.storeBF (b := b) 0 rfl ty3 scitation_reader_1 rfl (by decide) (.tmp rfl) (.tmp rfl)) (fun _ => ?_)
    refine WL.nr ?_
    refine WL.mv rfl rfl ?_
    refine WL.gv rfl rfl ?_
    refine WL.op rfl (.assign .bool) ?_
    refine WL.ns ?_
    cases hm
    exact W.ret2 () rfl rfl (.tmp rfl) (.tmp rfl) ⟨rfl, rfl, trivial⟩
   ·have hm := hs7
    clear hs7
    refine W.sr ?_
    refine WL.mv rfl rfl ?_
    refine WL.mv rfl rfl ?_
    obtain ⟨v1, hv9, hm⟩ := bind_some hm
    refine WL.op rfl (.callF (ok := (fun s : Str × Bool => is s.1 = some s.2)) (As := (fun s : Str × Bool => [tS.is s.1])) (A := (fun s : Str × Bool => (tB.is s.2))) (s := (v, v1)) (.tmp rfl) hv9 ⟨(.tmp rfl), trivial⟩) ?_
    refine WL.op rfl (.notB (.tmp rfl)) ?_
    refine WL.ns ?_
    refine W.cond (.tmp rfl) (fun hc10 => ?_) (fun hc10 => ?_)
    ·have hp11 := not_pos hc10
     rw [if_pos hp11] at hm
     refine W.sr ?_
     refine WL.mv rfl rfl ?_
     refine WL.op rfl (.lenS Tryd.underlying9 (.tmp rfl)) ?_
     obtain ⟨v2, hv12, hm⟩ := bind_some hm
     refine WL.op rfl (.subC hv12 (.tmp rfl) .i64) ?_
     refine WL.gv rfl rfl ?_
     refine WL.ns ?_
     refine W.seq ?_
     obtain ⟨s13, hs14, hk15⟩ := bind_some hm
     clear hm
     refine W.join (fun s : Bool => s = s13) (fun s => [(57, (tB.is s)), (0, (Bp b 0)), (6, (tS.is v)), (7, ((tI .i64).is v2))]) (fun s => [(0, (Bx 3 true 79 (tcitation_reader.is r0_) b))]) ?_ ?_
     ·rintro v3 hj28
      try dsimp only at hj28
      subst hj28
      have hm := hk15
      clear hk15
      try dsimp only at hm
      change W _ _ _ _ _ _ _ [(57, (tB.is v3)), (0, (Bp b 0)), (6, (tS.is v)), (7, ((tI .i64).is v2))] [(0, (Bx 3 true 79 (tcitation_reader.is r0_) b))]
      refine W.cond (.tmp rfl) (fun hc24 => ?_) (fun hc24 => ?_)
      ·have hp25 := hc24
       rw [if_pos hp25] at hm
       refine W.sr ?_
       refine WL.op rfl (.assign (.str rfl (by decide))) ?_
       refine WL.op rfl (.assign .bool) ?_
       refine WL.ns ?_
       have hr26 := Option.some.inj hm
       clear hm
       subst hr26
       have hm := hk8
       try dsimp only at hm
       cases hm
       exact W.ret2 () rfl rfl (.tmp rfl) (.tmp rfl) ⟨rfl, rfl, trivial⟩
      ·have hp25 := ne_of_false hc24
       rw [if_neg hp25] at hm
       refine W.skip ?_
       refine WN.seq ?_
       refine W.region ?_
       refine WL.mv rfl rfl ?_
       refine WL.mv rfl rfl ?_
       refine WL.mv rfl rfl ?_
       obtain ⟨v6, hv27, hm⟩ := bind_some hm
       refine WL.op rfl (.sslcHi hv27 Tryd.underlying9 (.tmp rfl) (.tmp rfl)) ?_
       refine WL.gv rfl rfl ?_
       refine WL.op rfl (.nilCheckB (.tmp rfl)) ?_
       refine WL.op rfl (.fieldAddrB (o := 0) Tryd.underlying79 rfl (fun w => ⟨0, Tryd.sizeOf4 w⟩) (.tmp rfl) rfl) ?_
       refine WL.opU (OpR.storeBF (b := b) 0 rfl ty4 scitation_reader_2 rfl (by decide) (.tmp rfl) .bool) (fun _ => ?_)
       refine WL.nil ?_
       exact WN.meet (v6, ({ r0_ with ended_ := true } : citation_reader)) (Option.some.inj hm) ⟨Ent.q rfl, Ent.q rfl, trivial⟩ ⟨rfl, rfl, trivial⟩
     ·have hm := hs14
      clear hs14
      refine W.region ?_
      refine WL.mv rfl rfl ?_
      refine WL.op rfl (.ltI (.tmp rfl) .i64) ?_
      refine WL.mv rfl rfl ?_
      rcases bcases (decide (v2 < (0 : Int))) with hb16 | hb16
      ·have hp17 := of_decide_eq_true hb16
       rw [if_pos hp17] at hm
       iterate 5 refine WL.pass rfl rfl rfl rfl hb16 rfl rfl ?_
       refine WL.op rfl (.pickT (.tmp rfl) hb16 .bool) ?_
       refine WL.mv rfl rfl ?_
       iterate 6 refine WL.pass rfl rfl rfl rfl rfl rfl rfl ?_
       refine WL.op rfl (.pickT (.tmp rfl) rfl .bool) ?_
       refine WL.nil ?_
       exact WN.meet true (Option.some.inj hm) ⟨Ent.q rfl, Ent.q rfl, Ent.q rfl, Ent.q rfl, trivial⟩ ⟨rfl, rfl, trivial⟩
      ·have hp17 := of_decide_eq_false hb16
       rw [if_neg hp17] at hm
       refine WL.run rfl rfl rfl rfl hb16 rfl rfl (Op1.move (.tmp rfl)) ?_
       refine WL.run rfl rfl rfl rfl hb16 rfl rfl (Op1.move (.tmp rfl)) ?_
       obtain ⟨b1, hv18, hm⟩ := bind_some hm
       refine WL.run rfl rfl rfl rfl hb16 rfl rfl (Op1.sidx hv18 Tryd.underlying9 (.tmp rfl) (.tmp rfl)) ?_
       obtain ⟨indexb, hv19, hm⟩ := bind_some hm
       refine WL.run rfl rfl rfl rfl hb16 rfl rfl (Op1.call Tryd.call93 (strings_IndexByte_spec _ _ _ hv19) ⟨(.str rfl (by decide)), (.tmp rfl), trivial⟩) ?_
       refine WL.run rfl rfl rfl rfl hb16 rfl rfl (Op1.ltI (.tmp rfl) .i64) ?_
       refine WL.op rfl (.pickF (.tmp rfl) hb16 (.tmp rfl)) ?_
       refine WL.mv rfl rfl ?_
       rcases bcases (decide (indexb < (0 : Int))) with hb20 | hb20
       ·have hp21 := of_decide_eq_true hb20
        rw [if_pos hp21] at hm
        iterate 6 refine WL.pass rfl rfl rfl rfl hb20 rfl rfl ?_
        refine WL.op rfl (.pickT (.tmp rfl) hb20 .bool) ?_
        refine WL.nil ?_
        exact WN.meet true (Option.some.inj hm) ⟨Ent.q rfl, Ent.q rfl, Ent.q rfl, Ent.q rfl, trivial⟩ ⟨rfl, rfl, trivial⟩
       ·have hp21 := of_decide_eq_false hb20
        rw [if_neg hp21] at hm
        refine WL.run rfl rfl rfl rfl hb20 rfl rfl (Op1.move (.tmp rfl)) ?_
        refine WL.run rfl rfl rfl rfl hb20 rfl rfl (Op1.move (.tmp rfl)) ?_
        refine WL.run rfl rfl rfl rfl hb20 rfl rfl (Op1.move (.tmp rfl)) ?_
        obtain ⟨v4, hv22, hm⟩ := bind_some hm
        refine WL.run rfl rfl rfl rfl hb20 rfl rfl (Op1.sslcHi hv22 Tryd.underlying9 (.tmp rfl) (.tmp rfl)) ?_
        obtain ⟨v5, hv23, hm⟩ := bind_some hm
        refine WL.run rfl rfl rfl rfl hb20 rfl rfl (Op1.callF (ok := (fun s : Str × Bool => is s.1 = some s.2)) (As := (fun s : Str × Bool => [tS.is s.1])) (A := (fun s : Str × Bool => (tB.is s.2))) (s := (v4, v5)) (.tmp rfl) hv23 ⟨(.tmp rfl), trivial⟩) ?_
        refine WL.run rfl rfl rfl rfl hb20 rfl rfl (Op1.notB (.tmp rfl)) ?_
        refine WL.op rfl (.pickF (.tmp rfl) hb20 (.tmp rfl)) ?_
        refine WL.nil ?_
        exact WN.meet (!v5) (Option.some.inj hm) ⟨Ent.q rfl, Ent.q rfl, Ent.q rfl, Ent.q rfl, trivial⟩ ⟨rfl, rfl, trivial⟩
    ·have hp11 := not_neg hc10
     rw [if_neg hp11] at hm
     refine W.skip ?_
     exact WN.meet (v, r0_) (Option.some.inj hm) ⟨Ent.q rfl, Ent.q rfl, trivial⟩ ⟨rfl, rfl, trivial⟩
theorem citation_reader_just_spec (r0_ : citation_reader) (want : Str) (b : Nat) (r : Bool × citation_reader) (hm : M.citation_reader_just r0_ want = some r) : FSpecR Tryd.prog 74 [(Bp b 0), (tS.is want)] [(0, (Bx 3 true 79 (tcitation_reader.is r0_) b))] (fun kx : Unit => (tB.is r.1)) (fun kx : Unit => [(0, (Bx 3 true 79 (tcitation_reader.is r.2) b))]) := by
 unfold M.citation_reader_just at hm
 refine FSpecR.of Tryd.func74 rfl rfl rfl (fun g0 => ?_)
 refine W.sr ?_
 refine WL.op rfl (.box (.tmp rfl)) ?_
 refine WL.op rfl (.assign .bool) ?_
 refine WL.nr ?_
 refine WL.mv rfl rfl ?_
 refine WL.op rfl (.makeFunc (ok := (fun s : Str × Bool => (fun s0 => M.citation_reader_just_1 s0 want) s.1 = some s.2)) (As := (fun s : Str × Bool => [tS.is s.1])) (A := (fun s : Str × Bool => (tB.is s.2))) (Cs := [(tS.ptr want)]) (cap := [.tmp 3]) Tryd.call87 ⟨(.tmp rfl), trivial⟩ (fun s hs => citation_reader_just_1_spec _ _ _ hs)) ?_
 obtain ⟨⟨word, r0_1⟩, hv1, hm⟩ := bind_some hm
 dsimp only at hm
 refine WL.weakR (res' := [(0, (Bx 3 true 79 (tcitation_reader.is r0_) b))]) ⟨rfl, rfl, trivial⟩ ?_
 refine WL.opR rfl (OpR.call (us := [0]) (A := fun kx : Unit => (Asn.tuple2 (tS.is word.1) (tB.is word.2))) Tryd.call86 (FSpecR.keys (rin' := [(0, (Bx 3 true 79 (tcitation_reader.is r0_) b))]) (out' := fun kx : Unit => [(0, (Bx 3 true 79 (tcitation_reader.is r0_1) b))]) (citation_reader_word_spec _ _ _ _ hv1) rfl (fun _ => rfl)) rfl ⟨(.tmp rfl), (.tmp rfl), trivial⟩) (fun _ => ?_)
 refine WL.mv rfl rfl ?_
 refine WL.op rfl (.extract0 (.tmp rfl)) ?_
 refine WL.op rfl (.extract1 (.tmp rfl)) ?_
 refine WL.gv rfl rfl ?_
 refine WL.gv rfl rfl ?_
 refine WL.nr ?_
 refine WL.mv rfl rfl ?_
 refine WL.gv rfl rfl ?_
 refine WL.ns ?_
 cases hm
 exact W.ret1 () rfl (.tmp rfl) ⟨rfl, rfl, trivial⟩
theorem citation_single_spec  (r : (List Str)) (hm : M.citation_single  = some r) : FSpec Tryd.prog 69 [] ((tL tS).is r) := by
 unfold M.citation_single at hm
 refine FSpec.of Tryd.func69 rfl rfl rfl (fun g0 => ?_)
 refine W.sr ?_
 refine WL.op rfl (.assign (.nil (t := tS))) ?_
 refine WL.nr ?_
 refine WL.op rfl (.buildSlice (n := 8) (ys := [(1, ([112, 97, 114, 116] : Str)), (2, ([115, 101, 99, 116, 105, 111, 110] : Str)), (3, ([112, 97, 114, 97, 103, 114, 97, 112, 104] : Str)), (4, ([116, 97, 98, 108, 101] : Str)), (5, ([114, 111, 119] : Str)), (6, ([99, 101, 108, 108] : Str)), (7, ([110, 111, 116, 101] : Str))]) (z := ([] : Str)) (xs := [([] : Str), ([112, 97, 114, 116] : Str), ([115, 101, 99, 116, 105, 111, 110] : Str), ([112, 97, 114, 97, 103, 114, 97, 112, 104] : Str), ([116, 97, 98, 108, 101] : Str), ([114, 111, 119] : Str), ([99, 101, 108, 108] : Str), ([110, 111, 116, 101] : Str)]) Tryd.underlying28 el9 ze9 ⟨rfl, (.str rfl (by decide)), rfl, (.str rfl (by decide)), rfl, (.str rfl (by decide)), rfl, (.str rfl (by decide)), rfl, (.str rfl (by decide)), rfl, (.str rfl (by decide)), rfl, (.str rfl (by decide)), trivial⟩ (by simp) (by decide) rfl) ?_
 refine WL.gv rfl rfl ?_
 refine WL.ns ?_
 cases hm
 exact W.ret1 () rfl (.tmp rfl) trivial
theorem slices_Index_string_string_spec (n : Nat) (s0_ : List Str) (v : Str) (r : Int) (hm : M.slices_Index_string_string n s0_ v = some r) : FSpec Tryd.prog 101 [((tL tS).is s0_), (tS.is v)] ((tI .i64).is r) := by
 unfold M.slices_Index_string_string at hm
 refine FSpec.of Tryd.func101 rfl rfl rfl (fun g0 => ?_)
 refine W.sr ?_
 refine WL.op rfl (.assign .i64) ?_
 refine WL.ns ?_
 refine W.seq ?_
 refine W.sr ?_
 refine WL.mv rfl rfl ?_
 refine WL.op rfl (.lenL Tryd.underlying28 (.tmp rfl)) ?_
 refine WL.op rfl (.move .i64) ?_
 refine WL.ns ?_
 refine W.block ?_
 obtain ⟨s1, hs2, hk3⟩ := bind_some hm
 clear hm
 refine W.loop (fun m (s : Int) => M.slices_Index_string_string_loop1 s0_ v m s = some s1) (fun s => [(8, ((tI .i64).is s)), (0, ((tL tS).is s0_)), (1, (tS.is v)), (7, ((tI .i64).is (s0_.length : Int)))]) (fun s => []) _ (0 : Int) hs2 ⟨Ent.q rfl, Ent.q rfl, Ent.q rfl, Ent.q rfl, trivial⟩ trivial ?_
 rintro n4 v1 hm
 try dsimp only at hm
 change W _ _ _ _ _ _ _ [(8, ((tI .i64).is v1)), (0, ((tL tS).is s0_)), (1, (tS.is v)), (7, ((tI .i64).is (s0_.length : Int)))] []
 cases n4 with
 | zero => rw [M.slices_Index_string_string_loop1.eq_1] at hm; cases hm
 | succ n4 =>
  rw [M.slices_Index_string_string_loop1.eq_2] at hm
  refine W.sr ?_
  refine WL.op rfl (.ltI (.tmp rfl) (.tmp rfl)) ?_
  refine WL.ns ?_
  refine W.seq ?_
  refine W.cond (.tmp rfl) (fun hc5 => ?_) (fun hc5 => ?_)
  ·have hp6 := of_decide_eq_true hc5
   rw [if_pos hp6] at hm
   refine W.skip ?_
   refine WN.seq ?_
   refine W.seq ?_
   refine W.block ?_
   refine W.sr ?_
   refine WL.mv rfl rfl ?_
   refine WL.gv rfl rfl ?_
   refine WL.nr ?_
   refine WL.mv rfl rfl ?_
   refine WL.mv rfl rfl ?_
   refine WL.mv rfl rfl ?_
   obtain ⟨v2, hv7, hm⟩ := bind_some hm
   refine WL.op rfl (.idx hv7 Tryd.underlying28 Tryd.sizeOf9 (.tmp rfl) (.tmp rfl)) ?_
   refine WL.op rfl (.load ty9 (.tmp rfl)) ?_
   refine WL.op rfl (.eqS (.tmp rfl) (.tmp rfl)) ?_
   refine WL.ns ?_
   refine W.cond (.tmp rfl) (fun hc8 => ?_) (fun hc8 => ?_)
   ·have hp9 := hc8
    rw [if_pos hp9] at hm
    refine W.sr ?_
    refine WL.mv rfl rfl ?_
    refine WL.gv rfl rfl ?_
    refine WL.ns ?_
    have hr10 := Option.some.inj hm
    clear hm
    subst hr10
    have hm := hk3
    try dsimp only at hm
    cases hm
    exact W.ret1 () rfl (.tmp rfl) trivial
   ·have hp9 := ne_of_false hc8
    rw [if_neg hp9] at hm
    refine W.skip ?_
    refine WN.block ?_
    refine WN.seq ?_
    refine W.region ?_
    refine WL.lenL (s := 0) (.tmp rfl) fun hl11 => ?_
    refine WL.op rfl (.addI1 (.tmp rfl) .i64 hp6 hl11) ?_
    refine WL.mv rfl rfl ?_
    refine WL.nil ?_
    exact WN.again n4 (v1 + 1) (Nat.lt_succ_self n4) hm ⟨Ent.q rfl, Ent.q rfl, Ent.q rfl, Ent.q rfl, trivial⟩ trivial
  ·have hp6 := of_decide_eq_false hc5
   rw [if_neg hp6] at hm
   refine W.exit rfl ?_
   have hr12 := Option.some.inj hm
   clear hm
   subst hr12
   have hm := hk3
   try dsimp only at hm
   refine WN.seq ?_
   refine W.sr ?_
   refine WL.op rfl (.assign .i64) ?_
   refine WL.ns ?_
   cases hm
   exact W.ret1 () rfl (.tmp rfl) trivial
theorem citation_kind_spec (n : Nat) (l : List Str) (word : Str) (r : Int) (hm : M.citation_kind n l word = some r) : FSpec Tryd.prog 95 [((tL tS).is l), (tS.is word)] ((tI .i64).is r) := by
 unfold M.citation_kind at hm
 refine FSpec.of Tryd.func95 rfl rfl rfl (fun g0 => ?_)
 refine W.sr ?_
 refine WL.op rfl (.assign .i64) ?_
 refine WL.ns ?_
 refine W.seq ?_
 refine W.sr ?_
 refine WL.mv rfl rfl ?_
 refine WL.op rfl (.eqS (.tmp rfl) (.str rfl (by decide))) ?_
 refine WL.ns ?_
 refine W.cond (.tmp rfl) (fun hc1 => ?_) (fun hc1 => ?_)
 ·have hp2 := hc1
  rw [if_pos hp2] at hm
  refine W.sr ?_
  refine WL.op rfl (.assign .i64) ?_
  refine WL.ns ?_
  cases hm
  exact W.ret1 () rfl (.tmp rfl) trivial
 ·have hp2 := ne_of_false hc1
  rw [if_neg hp2] at hm
  refine W.skip ?_
  refine WN.seq ?_
  refine W.sr ?_
  refine WL.mv rfl rfl ?_
  refine WL.mv rfl rfl ?_
  obtain ⟨string, hv3, hm⟩ := bind_some hm
  refine WL.op rfl (.call Tryd.call101 (slices_Index_string_string_spec _ _ _ _ hv3) ⟨(.tmp rfl), (.tmp rfl), trivial⟩) ?_
  refine WL.op rfl (.maxI (.tmp rfl) .i64) ?_
  refine WL.gv rfl rfl ?_
  refine WL.ns ?_
  cases hm
  exact W.ret1 () rfl (.tmp rfl) trivial
theorem citation_reader_kind_1_spec (n : Nat) (s0_ : Str) (c : List Str) (r : Bool) (hm : M.citation_reader_kind_1 n s0_ c = some r) : FSpec Tryd.prog 94 [(tS.is s0_), ((tL tS).ptr c)] (tB.is r) := by
 unfold M.citation_reader_kind_1 at hm
 refine FSpec.of Tryd.func94 rfl rfl rfl (fun g0 => ?_)
 refine W.sr ?_
 refine WL.op rfl (.assign .bool) ?_
 refine WL.nr ?_
 refine WL.op rfl (.load ty28 (.tmp rfl)) ?_
 refine WL.mv rfl rfl ?_
 obtain ⟨kind, hv1, hm⟩ := bind_some hm
 refine WL.op rfl (.call Tryd.call95 (citation_kind_spec _ _ _ _ hv1) ⟨(.tmp rfl), (.tmp rfl), trivial⟩) ?_
 refine WL.op rfl (.gtI (.tmp rfl) .i64) ?_
 refine WL.gv rfl rfl ?_
 refine WL.ns ?_
 cases hm
 exact W.ret1 () rfl (.tmp rfl) trivial
theorem citation_reader_kind_spec (n : Nat) (r0_ : citation_reader) (l : List Str) (b : Nat) (r : (Int × Bool) × citation_reader) (hm : M.citation_reader_kind n r0_ l = some r) : FSpecR Tryd.prog 88 [(Bp b 0), ((tL tS).is l)] [(0, (Bx 3 true 79 (tcitation_reader.is r0_) b))] (fun kx : Unit => (Asn.tuple2 ((tI .i64).is r.1.1) (tB.is r.1.2))) (fun kx : Unit => [(0, (Bx 3 true 79 (tcitation_reader.is r.2) b))]) := by
 unfold M.citation_reader_kind at hm
 refine FSpecR.of Tryd.func88 rfl rfl rfl (fun g0 => ?_)
 refine W.sr ?_
 refine WL.op rfl (.box (.tmp rfl)) ?_
 refine WL.op rfl (.assign .i64) ?_
 refine WL.op rfl (.assign .bool) ?_
 refine WL.nr ?_
 refine WL.mv rfl rfl ?_
 refine WL.op rfl (.makeFunc (ok := (fun s : Str × Bool => (fun s0 => M.citation_reader_kind_1 n s0 l) s.1 = some s.2)) (As := (fun s : Str × Bool => [tS.is s.1])) (A := (fun s : Str × Bool => (tB.is s.2))) (Cs := [((tL tS).ptr l)]) (cap := [.tmp 3]) Tryd.call94 ⟨(.tmp rfl), trivial⟩ (fun s hs => citation_reader_kind_1_spec _ _ _ _ hs)) ?_
 obtain ⟨⟨word, r0_1⟩, hv1, hm⟩ := bind_some hm
 dsimp only at hm
 refine WL.weakR (res' := [(0, (Bx 3 true 79 (tcitation_reader.is r0_) b))]) ⟨rfl, rfl, trivial⟩ ?_
 refine WL.opR rfl (OpR.call (us := [0]) (A := fun kx : Unit => (Asn.tuple2 (tS.is word.1) (tB.is word.2))) Tryd.call86 (FSpecR.keys (rin' := [(0, (Bx 3 true 79 (tcitation_reader.is r0_) b))]) (out' := fun kx : Unit => [(0, (Bx 3 true 79 (tcitation_reader.is r0_1) b))]) (citation_reader_word_spec _ _ _ _ hv1) rfl (fun _ => rfl)) rfl ⟨(.tmp rfl), (.tmp rfl), trivial⟩) (fun _ => ?_)
 refine WL.mv rfl rfl ?_
 refine WL.op rfl (.extract0 (.tmp rfl)) ?_
 refine WL.op rfl (.extract1 (.tmp rfl)) ?_
 refine WL.gv rfl rfl ?_
 refine WL.gv rfl rfl ?_
 refine WL.nr ?_
 refine WL.op rfl (.load ty28 (.tmp rfl)) ?_
 refine WL.mv rfl rfl ?_
 obtain ⟨kind, hv2, hm⟩ := bind_some hm
 refine WL.op rfl (.call Tryd.call95 (citation_kind_spec _ _ _ _ hv2) ⟨(.tmp rfl), (.tmp rfl), trivial⟩) ?_
 refine WL.mv rfl rfl ?_
 refine WL.gv rfl rfl ?_
 refine WL.gv rfl rfl ?_
 refine WL.ns ?_
 cases hm
 exact W.ret2 () rfl rfl (.tmp rfl) (.tmp rfl) ⟨rfl, rfl, trivial⟩
theorem strings_indexFunc_spec (n : Nat) (s0_ : Str) (f : Int → Option Bool) (truth : Bool) (r : Int) (hm : M.strings_indexFunc n s0_ f truth = some r) : FSpec Tryd.prog 81 [(tS.is s0_), (tF Tryd.prog (fun s : Int × Bool => f s.1 = some s.2) (fun s : Int × Bool => [(tI .i32).is s.1]) (fun s : Int × Bool => (tB.is s.2))), (tB.is truth)] ((tI .i64).is r) := by
 unfold M.strings_indexFunc at hm
 refine FSpec.of Tryd.func81 rfl rfl rfl (fun g0 => ?_)
 refine W.sr ?_
 refine WL.op rfl (.assign .i64) ?_
 refine WL.ns ?_
 refine W.seq ?_
 refine W.sr ?_
 refine WL.mv rfl rfl ?_
 refine WL.opR rfl (OpR.range 10 Tryd.underlying9 (.tmp rfl)) (fun b => ?_)
 refine WL.ns ?_
 refine W.block ?_
 obtain ⟨s1, hs2, hk3⟩ := bind_some hm
 clear hm
 refine W.loop (fun m (s : Nat) => M.strings_indexFunc_loop1 s0_ f truth m s = some s1) (fun s => [(1, (tF Tryd.prog (fun s : Int × Bool => f s.1 = some s.2) (fun s : Int × Bool => [(tI .i32).is s.1]) (fun s : Int × Bool => (tB.is s.2)))), (2, (tB.is truth)), (10, (Bp b 0))]) (fun s => [(10, It s0_ s b)]) _ 0 hs2 ⟨Ent.q rfl, Ent.q rfl, Ent.q rfl, trivial⟩ ⟨rfl, rfl, trivial⟩ ?_
 rintro n4 v hm
 try dsimp only at hm
 change W _ _ _ _ _ _ _ [(1, (tF Tryd.prog (fun s : Int × Bool => f s.1 = some s.2) (fun s : Int × Bool => [(tI .i32).is s.1]) (fun s : Int × Bool => (tB.is s.2)))), (2, (tB.is truth)), (10, (Bp b 0))] [(10, It s0_ v b)]
 cases n4 with
 | zero => rw [M.strings_indexFunc_loop1.eq_1] at hm; cases hm
 | succ n4 =>
  rw [M.strings_indexFunc_loop1.eq_2] at hm
  refine W.sr ?_
  by_cases hp5 : v < s0_.length
  ·rw [if_pos hp5] at hm
   refine WL.opR rfl (OpR.nextT (b := b) 10 hp5 rfl (.tmp rfl)) (fun _ => ?_)
   refine WL.op rfl (.extract30 (.tmp rfl)) ?_
   refine WL.ns ?_
   refine W.seq ?_
   refine W.condT (.tmp rfl) ?_
   refine W.skip ?_
   refine WN.seq ?_
   refine W.block ?_
   refine W.sr ?_
   refine WL.op rfl (.extract31 (.tmp rfl)) ?_
   refine WL.op rfl (.extract32 (.tmp rfl)) ?_
   refine WL.gv rfl rfl ?_
   refine WL.gv rfl rfl ?_
   refine WL.nr ?_
   refine WL.mv rfl rfl ?_
   refine WL.mv rfl rfl ?_
   obtain ⟨v1, hv6, hm⟩ := bind_some hm
   refine WL.op rfl (.callF (ok := (fun s : Int × Bool => f s.1 = some s.2)) (As := (fun s : Int × Bool => [(tI .i32).is s.1])) (A := (fun s : Int × Bool => (tB.is s.2))) (s := (((runeAt s0_ v).1 : Int), v1)) (.tmp rfl) hv6 ⟨(.tmp rfl), trivial⟩) ?_
   refine WL.mv rfl rfl ?_
   refine WL.op rfl (.eqB Tryd.underlying4 (.tmp rfl) (.tmp rfl)) ?_
   refine WL.ns ?_
   refine W.cond (.tmp rfl) (fun hc7 => ?_) (fun hc7 => ?_)
   ·have hp8 := hc7
    rw [if_pos hp8] at hm
    refine W.sr ?_
    refine WL.mv rfl rfl ?_
    refine WL.gv rfl rfl ?_
    refine WL.ns ?_
    have hr9 := Option.some.inj hm
    clear hm
    subst hr9
    have hm := hk3
    try dsimp only at hm
    cases hm
    exact W.ret1 () rfl (.tmp rfl) trivial
   ·have hp8 := ne_of_false hc7
    rw [if_neg hp8] at hm
    refine W.skip ?_
    refine WN.block ?_
    exact WN.again n4 (v + (runeAt s0_ v).2) (Nat.lt_succ_self n4) hm ⟨Ent.q rfl, Ent.q rfl, Ent.q rfl, trivial⟩ ⟨rfl, rfl, trivial⟩
  ·rw [if_neg hp5] at hm
   refine WL.op rfl (.nextF 10 hp5 rfl (.tmp rfl)) ?_
   refine WL.op rfl (.extract10 (.tmp rfl)) ?_
   refine WL.ns ?_
   refine W.seq ?_
   refine W.condF (.tmp rfl) ?_
   refine W.exit rfl ?_
   have hr10 := Option.some.inj hm
   clear hm
   subst hr10
   have hm := hk3
   try dsimp only at hm
   refine WN.seq ?_
   refine W.sr ?_
   refine WL.op rfl (.assign .i64) ?_
   refine WL.ns ?_
   cases hm
   exact W.ret1 () rfl (.tmp rfl) trivial
theorem strings_IndexFunc_spec (n : Nat) (s0_ : Str) (f : Int → Option Bool) (r : Int) (hm : M.strings_IndexFunc n s0_ f = some r) : FSpec Tryd.prog 65 [(tS.is s0_), (tF Tryd.prog (fun s : Int × Bool => f s.1 = some s.2) (fun s : Int × Bool => [(tI .i32).is s.1]) (fun s : Int × Bool => (tB.is s.2)))] ((tI .i64).is r) := by
 unfold M.strings_IndexFunc at hm
 refine FSpec.of Tryd.func65 rfl rfl rfl (fun g0 => ?_)
 refine W.sr ?_
 refine WL.op rfl (.assign .i64) ?_
 refine WL.nr ?_
 refine WL.mv rfl rfl ?_
 refine WL.mv rfl rfl ?_
 obtain ⟨indexf, hv1, hm⟩ := bind_some hm
 refine WL.op rfl (.call Tryd.call81 (strings_indexFunc_spec _ _ _ _ _ hv1) ⟨(.tmp rfl), (.tmp rfl), .bool, trivial⟩) ?_
 refine WL.gv rfl rfl ?_
 refine WL.ns ?_
 cases hm
 exact W.ret1 () rfl (.tmp rfl) trivial
theorem label_parted_1_spec (b : Int) (r : Bool) (hm : M.label_parted_1 b = some r) : FSpec Tryd.prog 66 [((tI .i32).is b)] (tB.is r) := by
 unfold M.label_parted_1 at hm
 refine FSpec.of Tryd.func66 rfl rfl rfl (fun g0 => ?_)
 refine W.sr ?_
 refine WL.op rfl (.assign .bool) ?_
 refine WL.nr ?_
 refine WL.mv rfl rfl ?_
 refine WL.op rfl (.ltI (.tmp rfl) (.int (inR32.2 (by omega)))) ?_
 refine WL.mv rfl rfl ?_
 rcases bcases (decide (b < (48 : Int))) with hb1 | hb1
 ·have hp2 := of_decide_eq_true hb1
  rw [if_pos hp2] at hm
  iterate 2 refine WL.pass rfl rfl rfl rfl hb1 rfl rfl ?_
  refine WL.op rfl (.pickT (.tmp rfl) hb1 .bool) ?_
  refine WL.gv rfl rfl ?_
  refine WL.ns ?_
  cases hm
  exact W.ret1 () rfl (.tmp rfl) trivial
 ·have hp2 := of_decide_eq_false hb1
  rw [if_neg hp2] at hm
  refine WL.run rfl rfl rfl rfl hb1 rfl rfl (Op1.move (.tmp rfl)) ?_
  refine WL.run rfl rfl rfl rfl hb1 rfl rfl (Op1.gtI (.tmp rfl) (.int (inR32.2 (by omega)))) ?_
  refine WL.op rfl (.pickF (.tmp rfl) hb1 (.tmp rfl)) ?_
  refine WL.gv rfl rfl ?_
  refine WL.ns ?_
  cases hm
  exact W.ret1 () rfl (.tmp rfl) trivial
theorem label_parted_spec (n : Nat) (s0_ : Str) (r : Str × Str) (hm : M.label_parted n s0_ = some r) : FSpec Tryd.prog 51 [(tS.is s0_)] (Asn.tuple2 (tS.is r.1) (tS.is r.2)) := by
 unfold M.label_parted at hm
 refine FSpec.of Tryd.func51 rfl rfl rfl (fun g0 => ?_)
 refine W.sr ?_
 refine WL.op rfl (.assign (.str rfl (by decide))) ?_
 refine WL.op rfl (.assign (.str rfl (by decide))) ?_
 refine WL.nr ?_
 refine WL.mv rfl rfl ?_
 obtain ⟨indexf, hv1, hm⟩ := bind_some hm
 refine WL.op rfl (.call Tryd.call65 (strings_IndexFunc_spec _ _ _ _ hv1) ⟨(.tmp rfl), (Opd.fn Tryd.call66 (fun s hs => label_parted_1_spec _ _ hs)), trivial⟩) ?_
 refine WL.gv rfl rfl ?_
 refine WL.ns ?_
 refine W.seq ?_
 refine W.sr ?_
 refine WL.mv rfl rfl ?_
 refine WL.op rfl (.ltI (.tmp rfl) .i64) ?_
 refine WL.ns ?_
 refine W.cond (.tmp rfl) (fun hc2 => ?_) (fun hc2 => ?_)
 ·have hp3 := of_decide_eq_true hc2
  rw [if_pos hp3] at hm
  refine W.sr ?_
  refine WL.mv rfl rfl ?_
  refine WL.gv rfl rfl ?_
  refine WL.op rfl (.assign (.str rfl (by decide))) ?_
  refine WL.ns ?_
  cases hm
  exact W.ret2 () rfl rfl (.tmp rfl) (.tmp rfl) trivial
 ·have hp3 := of_decide_eq_false hc2
  rw [if_neg hp3] at hm
  refine W.skip ?_
  refine WN.seq ?_
  refine W.seq ?_
  obtain ⟨v, hv4, hm⟩ := bind_some hm
  obtain ⟨v1, hv5, hm⟩ := bind_some hm
  refine W.draw [.c (tS.is s0_), .c ((tI .i64).is indexf), .c (tS.is v), .c (tS.is s0_), .c ((tI .i64).is indexf), .c (tS.is v1), .c (tS.is v), .c (tS.is v1)] [([], [0]), ([], [4]), ([0, 1], []), ([], [0]), ([], [4]), ([3, 4], []), ([2], []), ([5], [])] Tryd.mixed rfl rfl rfl rfl ⟨.inr (Op1.move (.tmp rfl)), .inr (Op1.move (.tmp rfl)), .inr (Op1.sslcHi hv4 Tryd.underlying9 (.tmp rfl) (.tmp rfl)), .inr (Op1.move (.tmp rfl)), .inr (Op1.move (.tmp rfl)), .inr (Op1.sslcLo hv5 Tryd.underlying9 (.tmp rfl) (.tmp rfl)), .inr (Op1.assign (.tmp rfl)), .inr (Op1.assign (.tmp rfl)), trivial⟩ ?_
  refine WN.seq ?_
  cases hm
  exact W.ret2 () rfl rfl (.tmp rfl) (.tmp rfl) trivial
theorem strings_ContainsFunc_spec (n : Nat) (s0_ : Str) (f : Int → Option Bool) (r : Bool) (hm : M.strings_ContainsFunc n s0_ f = some r) : FSpec Tryd.prog 53 [(tS.is s0_), (tF Tryd.prog (fun s : Int × Bool => f s.1 = some s.2) (fun s : Int × Bool => [(tI .i32).is s.1]) (fun s : Int × Bool => (tB.is s.2)))] (tB.is r) := by
 unfold M.strings_ContainsFunc at hm
 refine FSpec.of Tryd.func53 rfl rfl rfl (fun g0 => ?_)
 refine W.sr ?_
 refine WL.op rfl (.assign .bool) ?_
 refine WL.nr ?_
 refine WL.mv rfl rfl ?_
 refine WL.mv rfl rfl ?_
 obtain ⟨indexf, hv1, hm⟩ := bind_some hm
 refine WL.op rfl (.call Tryd.call65 (strings_IndexFunc_spec _ _ _ _ hv1) ⟨(.tmp rfl), (.tmp rfl), trivial⟩) ?_
 refine WL.op rfl (.geI (.tmp rfl) .i64) ?_
 refine WL.gv rfl rfl ?_
 refine WL.ns ?_
 cases hm
 exact W.ret1 () rfl (.tmp rfl) trivial
theorem label_Valid_1_spec (b : Int) (r : Bool) (hm : M.label_Valid_1 b = some r) : FSpec Tryd.prog 52 [((tI .i32).is b)] (tB.is r) := by
 unfold M.label_Valid_1 at hm
 refine FSpec.of Tryd.func52 rfl rfl rfl (fun g0 => ?_)
 refine W.sr ?_
 refine WL.op rfl (.assign .bool) ?_
 refine WL.nr ?_
 refine WL.mv rfl rfl ?_
 refine WL.op rfl (.ltI (.tmp rfl) (.int (inR32.2 (by omega)))) ?_
 refine WL.mv rfl rfl ?_
 rcases bcases (decide (b < (65 : Int))) with hb1 | hb1
 ·have hp2 := of_decide_eq_true hb1
  rw [if_pos hp2] at hm
  iterate 2 refine WL.pass rfl rfl rfl rfl hb1 rfl rfl ?_
  refine WL.op rfl (.pickT (.tmp rfl) hb1 .bool) ?_
  refine WL.gv rfl rfl ?_
  refine WL.ns ?_
  cases hm
  exact W.ret1 () rfl (.tmp rfl) trivial
 ·have hp2 := of_decide_eq_false hb1
  rw [if_neg hp2] at hm
  refine WL.run rfl rfl rfl rfl hb1 rfl rfl (Op1.move (.tmp rfl)) ?_
  refine WL.run rfl rfl rfl rfl hb1 rfl rfl (Op1.gtI (.tmp rfl) (.int (inR32.2 (by omega)))) ?_
  refine WL.op rfl (.pickF (.tmp rfl) hb1 (.tmp rfl)) ?_
  refine WL.gv rfl rfl ?_
  refine WL.ns ?_
  cases hm
  exact W.ret1 () rfl (.tmp rfl) trivial
theorem label_Valid_spec (n : Nat) (s0_ : Str) (r : Bool) (hm : M.label_Valid n s0_ = some r) : FSpec Tryd.prog 35 [(tS.is s0_)] (tB.is r) := by
 unfold M.label_Valid at hm
 refine FSpec.of Tryd.func35 rfl rfl rfl (fun g0 => ?_)
 refine W.sr ?_
 refine WL.op rfl (.assign .bool) ?_
 refine WL.nr ?_
 refine WL.mv rfl rfl ?_
 obtain ⟨parted, hv1, hm⟩ := bind_some hm
 refine WL.op rfl (.call Tryd.call51 (label_parted_spec _ _ _ hv1) ⟨(.tmp rfl), trivial⟩) ?_
 refine WL.mv rfl rfl ?_
 refine WL.op rfl (.extract0 (.tmp rfl)) ?_
 refine WL.op rfl (.extract1 (.tmp rfl)) ?_
 refine WL.gv rfl rfl ?_
 refine WL.gv rfl rfl ?_
 refine WL.nr ?_
 refine WL.op rfl (.assign .func) ?_
 refine WL.nr ?_
 refine WL.mv rfl rfl ?_
 refine WL.op rfl (.lenS Tryd.underlying9 (.tmp rfl)) ?_
 refine WL.op rfl (.geI (.tmp rfl) .i64) ?_
 refine WL.mv rfl rfl ?_
 rcases bcases (decide ((1 : Int) ≤ (parted.1.length : Int))) with hb2 | hb2
 ·have hp3 := of_decide_eq_true hb2
  rw [if_pos hp3] at hm
  refine WL.run rfl rfl rfl rfl hb2 rfl rfl (Op1.move (.tmp rfl)) ?_
  refine WL.run rfl rfl rfl rfl hb2 rfl rfl (Op1.lenS Tryd.underlying9 (.tmp rfl)) ?_
  refine WL.run rfl rfl rfl rfl hb2 rfl rfl (Op1.leI (.tmp rfl) .i64) ?_
  refine WL.op rfl (.pickT (.tmp rfl) hb2 (.tmp rfl)) ?_
  refine WL.mv rfl rfl ?_
  rcases bcases (decide ((parted.1.length : Int) ≤ (4 : Int))) with hb4 | hb4
  ·have hp5 := of_decide_eq_true hb4
   rw [if_pos hp5] at hm
   refine WL.run rfl rfl rfl rfl hb4 rfl rfl (Op1.move (.tmp rfl)) ?_
   obtain ⟨b, hv6, hm⟩ := bind_some hm
   refine WL.run rfl rfl rfl rfl hb4 rfl rfl (Op1.sidx hv6 Tryd.underlying9 (.tmp rfl) .i64) ?_
   refine WL.run rfl rfl rfl rfl hb4 rfl rfl (Op1.neI (.tmp rfl) (.int (inR8.2 (by omega)))) ?_
   refine WL.op rfl (.pickT (.tmp rfl) hb4 (.tmp rfl)) ?_
   refine WL.mv rfl rfl ?_
   rcases bcases (decide ((b.toNat : Int) ≠ (48 : Int))) with hb7 | hb7
   ·have hp8 := of_decide_eq_true hb7
    rw [if_pos hp8] at hm
    refine WL.run rfl rfl rfl rfl hb7 rfl rfl (Op1.move (.tmp rfl)) ?_
    refine WL.run rfl rfl rfl rfl hb7 rfl rfl (Op1.lenS Tryd.underlying9 (.tmp rfl)) ?_
    refine WL.run rfl rfl rfl rfl hb7 rfl rfl (Op1.leI (.tmp rfl) .i64) ?_
    refine WL.op rfl (.pickT (.tmp rfl) hb7 (.tmp rfl)) ?_
    refine WL.mv rfl rfl ?_
    rcases bcases (decide ((parted.2.length : Int) ≤ (3 : Int))) with hb9 | hb9
    ·have hp10 := of_decide_eq_true hb9
     rw [if_pos hp10] at hm
     refine WL.run rfl rfl rfl rfl hb9 rfl rfl (Op1.move (.tmp rfl)) ?_
     refine WL.run rfl rfl rfl rfl hb9 rfl rfl (Op1.move (.tmp rfl)) ?_
     obtain ⟨contai, hv11, hm⟩ := bind_some hm
     refine WL.run rfl rfl rfl rfl hb9 rfl rfl (Op1.call Tryd.call53 (strings_ContainsFunc_spec _ _ _ _ hv11) ⟨(.tmp rfl), (Opd.fnE (.tmp rfl) Tryd.call52 (fun s hs => label_Valid_1_spec _ _ hs)), trivial⟩) ?_
     refine WL.run rfl rfl rfl rfl hb9 rfl rfl (Op1.notB (.tmp rfl)) ?_
     refine WL.op rfl (.pickT (.tmp rfl) hb9 (.tmp rfl)) ?_
     refine WL.gv rfl rfl ?_
     refine WL.ns ?_
     cases hm
     exact W.ret1 () rfl (.tmp rfl) trivial
    ·have hp10 := of_decide_eq_false hb9
     rw [if_neg hp10] at hm
     iterate 4 refine WL.pass rfl rfl rfl rfl hb9 rfl rfl ?_
     refine WL.op rfl (.pickF (.tmp rfl) hb9 .bool) ?_
     refine WL.gv rfl rfl ?_
     refine WL.ns ?_
     cases hm
     exact W.ret1 () rfl (.tmp rfl) trivial
   ·have hp8 := of_decide_eq_false hb7
    rw [if_neg hp8] at hm
    iterate 3 refine WL.pass rfl rfl rfl rfl hb7 rfl rfl ?_
    refine WL.op rfl (.pickF (.tmp rfl) hb7 .bool) ?_
    refine WL.mv rfl rfl ?_
    iterate 4 refine WL.pass rfl rfl rfl rfl rfl rfl rfl ?_
    refine WL.op rfl (.pickF (.tmp rfl) rfl .bool) ?_
    refine WL.gv rfl rfl ?_
    refine WL.ns ?_
    cases hm
    exact W.ret1 () rfl (.tmp rfl) trivial
  ·have hp5 := of_decide_eq_false hb4
   rw [if_neg hp5] at hm
   iterate 3 refine WL.pass rfl rfl rfl rfl hb4 rfl rfl ?_
   refine WL.op rfl (.pickF (.tmp rfl) hb4 .bool) ?_
   refine WL.mv rfl rfl ?_
   iterate 3 refine WL.pass rfl rfl rfl rfl rfl rfl rfl ?_
   refine WL.op rfl (.pickF (.tmp rfl) rfl .bool) ?_
   refine WL.mv rfl rfl ?_
   iterate 4 refine WL.pass rfl rfl rfl rfl rfl rfl rfl ?_
   refine WL.op rfl (.pickF (.tmp rfl) rfl .bool) ?_
   refine WL.gv rfl rfl ?_
   refine WL.ns ?_
   cases hm
   exact W.ret1 () rfl (.tmp rfl) trivial
 ·have hp3 := of_decide_eq_false hb2
  rw [if_neg hp3] at hm
  iterate 3 refine WL.pass rfl rfl rfl rfl hb2 rfl rfl ?_
  refine WL.op rfl (.pickF (.tmp rfl) hb2 .bool) ?_
  refine WL.mv rfl rfl ?_
  iterate 3 refine WL.pass rfl rfl rfl rfl rfl rfl rfl ?_
  refine WL.op rfl (.pickF (.tmp rfl) rfl .bool) ?_
  refine WL.mv rfl rfl ?_
  iterate 3 refine WL.pass rfl rfl rfl rfl rfl rfl rfl ?_
  refine WL.op rfl (.pickF (.tmp rfl) rfl .bool) ?_
  refine WL.mv rfl rfl ?_
  iterate 4 refine WL.pass rfl rfl rfl rfl rfl rfl rfl ?_
  refine WL.op rfl (.pickF (.tmp rfl) rfl .bool) ?_
  refine WL.gv rfl rfl ?_
  refine WL.ns ?_
  cases hm
  exact W.ret1 () rfl (.tmp rfl) trivial
theorem citation_reader_step_spec (n : Nat) (r0_ : citation_reader) (l : List Str) (b : Nat) (r : (api_Step × Bool) × citation_reader) (hm : M.citation_reader_step n r0_ l = some r) : FSpecR Tryd.prog 85 [(Bp b 0), ((tL tS).is l)] [(0, (Bx 3 true 79 (tcitation_reader.is r0_) b))] (fun kx : Unit => (Asn.tuple2 (tapi_Step.is r.1.1) (tB.is r.1.2))) (fun kx : Unit => [(0, (Bx 3 true 79 (tcitation_reader.is r.2) b))]) := by
 unfold M.citation_reader_step at hm
 refine FSpecR.of Tryd.func85 rfl rfl rfl (fun g0 => ?_)
 refine W.sr ?_
 refine WL.opR rfl (OpR.alloc 4 ze50) (fun b1 => ?_)
 refine WL.op rfl (.assign .bool) ?_
 refine WL.nr ?_
 refine WL.mv rfl rfl ?_
 refine WL.op rfl (.nilCheckB (.tmp rfl)) ?_
 refine WL.op rfl (.loadB 0 Tryd.isAgg79 Tryd.sizeOf79 rfl (.tmp rfl)) ?_
 refine WL.opR rfl (OpR.alloc 6 ze79) (fun b2 => ?_)
 refine WL.opU (OpR.storeB (b := b2) 6 Tryd.sizeOf79 (Cellable.is tcitation_reader r0_) rfl (.tmp rfl) (.tmp rfl)) (fun _ => ?_)
 refine WL.sealed (t := tcitation_reader) (u := r0_) 6 6 rfl rfl ?_
 refine WL.nr ?_
 refine WL.mv rfl rfl ?_
 refine WL.mv rfl rfl ?_
 obtain ⟨⟨kind, r0_1⟩, hv1, hm⟩ := bind_some hm
 dsimp only at hm
 refine WL.weakR (res' := [(0, (Bx 3 true 79 (tcitation_reader.is r0_) b)), (4, (Bx 2 true 50 (tapi_Step.is zapi_Step) b1))]) ⟨rfl, rfl, ⟨rfl, rfl, trivial⟩⟩ ?_
 refine WL.opR rfl (OpR.call (us := [0]) (A := fun kx : Unit => (Asn.tuple2 ((tI .i64).is kind.1) (tB.is kind.2))) Tryd.call88 (FSpecR.keys (rin' := [(0, (Bx 3 true 79 (tcitation_reader.is r0_) b))]) (out' := fun kx : Unit => [(0, (Bx 3 true 79 (tcitation_reader.is r0_1) b))]) (citation_reader_kind_spec _ _ _ _ _ hv1) rfl (fun _ => rfl)) rfl ⟨(.tmp rfl), (.tmp rfl), trivial⟩) (fun _ => ?_)
 refine WL.mv rfl rfl ?_
 refine WL.op rfl (.extract0 (.tmp rfl)) ?_
 refine WL.op rfl (.extract1 (.tmp rfl)) ?_
 refine WL.gv rfl rfl ?_
 refine WL.gv rfl rfl ?_
 refine WL.nr ?_
 refine WL.mv rfl rfl ?_
 obtain ⟨⟨word, r0_2⟩, hv2, hm⟩ := bind_some hm
 dsimp only at hm
 refine WL.weakR (res' := [(0, (Bx 3 true 79 (tcitation_reader.is r0_1) b)), (4, (Bx 2 true 50 (tapi_Step.is zapi_Step) b1))]) ⟨rfl, rfl, ⟨rfl, rfl, trivial⟩⟩ ?_
 refine WL.opR rfl (OpR.call (us := [0]) (A := fun kx : Unit => (Asn.tuple2 (tS.is word.1) (tB.is word.2))) Tryd.call86 (FSpecR.keys (rin' := [(0, (Bx 3 true 79 (tcitation_reader.is r0_1) b))]) (out' := fun kx : Unit => [(0, (Bx 3 true 79 (tcitation_reader.is r0_2) b))]) (citation_reader_word_spec _ _ _ _ hv2) rfl (fun _ => rfl)) rfl ⟨(.tmp rfl), (Opd.fn Tryd.call35 (fun s hs => label_Valid_spec _ _ _ hs)), trivial⟩) (fun _ => ?_)
 refine WL.mv rfl rfl ?_
 refine WL.op rfl (.extract0 (.tmp rfl)) ?_
 refine WL.op rfl (.extract1 (.tmp rfl)) ?_
 refine WL.gv rfl rfl ?_
 refine WL.gv rfl rfl ?_
 refine WL.ns ?_
 refine W.seq ?_
 obtain ⟨s3, hs4, hk5⟩ := bind_some hm
 clear hm
 refine W.join (fun s : Bool => s = s3) (fun s => [(30, (tB.is s)), (0, (Bp b 0)), (4, (Bp b1 0)), (6, (tcitation_reader.ptr r0_)), (7, ((tI .i64).is kind.1)), (9, (tS.is word.1))]) (fun s => [(0, (Bx 3 true 79 (tcitation_reader.is r0_2) b)), (4, (Bx 2 true 50 (tapi_Step.is zapi_Step) b1))]) ?_ ?_
 ·rintro v hj10
  try dsimp only at hj10
  subst hj10
  have hm := hk5
  clear hk5
  try dsimp only at hm
  change W _ _ _ _ _ _ _ [(30, (tB.is v)), (0, (Bp b 0)), (4, (Bp b1 0)), (6, (tcitation_reader.ptr r0_)), (7, ((tI .i64).is kind.1)), (9, (tS.is word.1))] [(0, (Bx 3 true 79 (tcitation_reader.is r0_2) b)), (4, (Bx 2 true 50 (tapi_Step.is zapi_Step) b1))]
  refine W.cond (.tmp rfl) (fun hc8 => ?_) (fun hc8 => ?_)
  ·have hp9 := hc8
   rw [if_pos hp9] at hm
   refine W.sr ?_
   refine WL.mv rfl rfl ?_
   refine WL.op rfl (.load ty79 (.tmp rfl)) ?_
   refine WL.op rfl (.nilCheckB (.tmp rfl)) ?_
   refine WL.opU (OpR.storeB (b := b) 0 Tryd.sizeOf79 (Cellable.is tcitation_reader r0_) rfl (.tmp rfl) (.tmp rfl)) (fun _ => ?_)
   refine WL.nr ?_
   refine WL.op rfl (.build (s := tapi_Step) (x := (⟨(0 : Int), ([] : Str)⟩ : api_Step)) zapi_Step_f rfl Tryd.underlying50 (zapi_Step_sz _ Tryd.underlying50) ze50 rfl) ?_
   refine WL.opU (OpR.storeB (b := b1) 4 Tryd.sizeOf50 (Cellable.is tapi_Step (⟨(0 : Int), ([] : Str)⟩ : api_Step)) rfl (.tmp rfl) (.tmp rfl)) (fun _ => ?_)
   refine WL.op rfl (.assign .bool) ?_
   refine WL.ns ?_
   cases hm
   exact W.retQ2 () rfl rfl (ResAt.cell 4 Tryd.isAgg50 Tryd.sizeOf50 rfl (.tmp rfl)) (ResAt.tmp (.tmp rfl)) ⟨rfl, rfl, trivial⟩
  ·have hp9 := ne_of_false hc8
   rw [if_neg hp9] at hm
   refine W.skip ?_
   refine WN.seq ?_
   refine W.sr ?_
   refine WL.mv rfl rfl ?_
   refine WL.mv rfl rfl ?_
   refine WL.op rfl (.build (s := tapi_Step) (x := (⟨kind.1, word.1⟩ : api_Step)) zapi_Step_f rfl Tryd.underlying50 (zapi_Step_sz _ Tryd.underlying50) ze50 ⟨_, (tI .i64), kind.1, _, _, rfl, Tryd.sizeOf3, (.tmp rfl), sapi_Step_0, ⟨_, tS, word.1, _, _, rfl, Tryd.sizeOf9, (.tmp rfl), sapi_Step_1, rfl⟩⟩) ?_
   refine WL.opU (OpR.storeB (b := b1) 4 Tryd.sizeOf50 (Cellable.is tapi_Step (⟨kind.1, word.1⟩ : api_Step)) rfl (.tmp rfl) (.tmp rfl)) (fun _ => ?_)
   refine WL.op rfl (.assign .bool) ?_
   refine WL.ns ?_
   cases hm
   exact W.retQ2 () rfl rfl (ResAt.cell 4 Tryd.isAgg50 Tryd.sizeOf50 rfl (.tmp rfl)) (ResAt.tmp (.tmp rfl)) ⟨rfl, rfl, trivial⟩
 ·have hm := hs4
  clear hs4
  refine W.region ?_
  refine WL.mv rfl rfl ?_
  refine WL.op rfl (.notB (.tmp rfl)) ?_
  refine WL.mv rfl rfl ?_
  rcases bcases (!kind.2) with hb6 | hb6
  ·have hp7 := not_pos hb6
   rw [if_pos hp7] at hm
   iterate 2 refine WL.pass rfl rfl rfl rfl hb6 rfl rfl ?_
   refine WL.op rfl (.pickT (.tmp rfl) hb6 .bool) ?_
   refine WL.nil ?_
   exact WN.meet true (Option.some.inj hm) ⟨Ent.q rfl, Ent.q rfl, Ent.q rfl, Ent.q rfl, Ent.q rfl, Ent.q rfl, trivial⟩ ⟨rfl, rfl, ⟨rfl, rfl, trivial⟩⟩
  ·have hp7 := not_neg hb6
   rw [if_neg hp7] at hm
   refine WL.run rfl rfl rfl rfl hb6 rfl rfl (Op1.move (.tmp rfl)) ?_
   refine WL.run rfl rfl rfl rfl hb6 rfl rfl (Op1.notB (.tmp rfl)) ?_
   refine WL.op rfl (.pickF (.tmp rfl) hb6 (.tmp rfl)) ?_
   refine WL.nil ?_
   exact WN.meet (!word.2) (Option.some.inj hm) ⟨Ent.q rfl, Ent.q rfl, Ent.q rfl, Ent.q rfl, Ent.q rfl, Ent.q rfl, trivial⟩ ⟨rfl, rfl, ⟨rfl, rfl, trivial⟩⟩
theorem citation_reader_more_spec (n : Nat) (r0_ : citation_reader) (p : List api_Step) (b : Nat) (k : Tok) (r : ((List api_Step)) × citation_reader) (hm : M.citation_reader_more n r0_ p = some r) : FSpecR Tryd.prog 84 [(Bp b 0), (tO tapi_Step k p)] [(0, (Bx 3 true 79 (tcitation_reader.is r0_) b)), (1000001, Dec.Own tapi_Step 50 k p.length)] (fun kx : Tok => tO tapi_Step kx r.1) (fun kx : Tok => [(0, (Bx 3 true 79 (tcitation_reader.is r.2) b)), (77777, Dec.Own tapi_Step 50 kx r.1.length)]) := by
 unfold M.citation_reader_more at hm
 refine FSpecR.of Tryd.func84 rfl rfl rfl (fun g0 => ?_)
 refine W.sr ?_
 refine WL.addNil (t := tapi_Step) (E := 50) 4 ?_
 refine WL.op rfl (.assign (Opd.nilO (t := tapi_Step))) ?_
 refine WL.ns ?_
 refine W.seq ?_
 refine W.block ?_
 obtain ⟨s1, hs2, hk3⟩ := bind_some hm
 clear hm
 refine W.loop (fun m (s : ((List api_Step) × citation_reader) × Tok) => M.citation_reader_more_loop1 m s.1.1 s.1.2 = some s1) (fun s => [(1, (tO tapi_Step s.2 s.1.1)), (0, (Bp b 0))]) (fun s => [(1000001, Dec.Own tapi_Step 50 s.2 s.1.1.length), (0, (Bx 3 true 79 (tcitation_reader.is s.1.2) b))]) _ ((p, r0_), k) hs2 ⟨Ent.q rfl, Ent.q rfl, trivial⟩ ⟨rfl, rfl, ⟨rfl, rfl, trivial⟩⟩ ?_
 rintro n4 ⟨⟨p1, r0_1⟩, k1⟩ hm
 try dsimp only at hm
 change W _ _ _ _ _ _ _ [(1, (tO tapi_Step k1 p1)), (0, (Bp b 0))] [(1000001, Dec.Own tapi_Step 50 k1 p1.length), (0, (Bx 3 true 79 (tcitation_reader.is r0_1) b))]
 cases n4 with
 | zero => rw [M.citation_reader_more_loop1.eq_1] at hm; cases hm
 | succ n4 =>
  rw [M.citation_reader_more_loop1.eq_2] at hm
  refine W.seq ?_
  refine W.sr ?_
  refine WL.mv rfl rfl ?_
  refine WL.op rfl (.lenL Tryd.underlying22 (Opd.own (.tmp rfl))) ?_
  refine WL.op rfl (.ltI (.tmp rfl) .i64) ?_
  refine WL.ns ?_
  refine W.cond (.tmp rfl) (fun hc5 => ?_) (fun hc5 => ?_)
  ·have hp6 := of_decide_eq_true hc5
   rw [if_pos hp6] at hm
   refine W.skip ?_
   refine WN.seq ?_
   refine W.block ?_
   refine W.sr ?_
   refine WL.mv rfl rfl ?_
   obtain ⟨single, hv7, hm⟩ := bind_some hm
   refine WL.op rfl (.call Tryd.call69 (citation_single_spec _ hv7) trivial) ?_
   obtain ⟨⟨step, r0_2⟩, hv8, hm⟩ := bind_some hm
   dsimp only at hm
   refine WL.weakR (res' := [(0, (Bx 3 true 79 (tcitation_reader.is r0_1) b)), (1000001, Dec.Own tapi_Step 50 k1 p1.length)]) ⟨rfl, rfl, ⟨rfl, rfl, trivial⟩⟩ ?_
   refine WL.opR rfl (OpR.call (us := [0]) (A := fun kx : Unit => (Asn.tuple2 (tapi_Step.is step.1) (tB.is step.2))) Tryd.call85 (FSpecR.keys (rin' := [(0, (Bx 3 true 79 (tcitation_reader.is r0_1) b))]) (out' := fun kx : Unit => [(0, (Bx 3 true 79 (tcitation_reader.is r0_2) b))]) (citation_reader_step_spec _ _ _ _ _ hv8) rfl (fun _ => rfl)) rfl ⟨(.tmp rfl), (.tmp rfl), trivial⟩) (fun _ => ?_)
   refine WL.mv rfl rfl ?_
   refine WL.op rfl (.extract0 (.tmp rfl)) ?_
   refine WL.op rfl (.extract1 (.tmp rfl)) ?_
   refine WL.opR rfl (OpR.alloc 5 ze50) (fun b1 => ?_)
   refine WL.opU (OpR.storeB (b := b1) 5 Tryd.sizeOf50 (Cellable.is tapi_Step step.1) rfl (.tmp rfl) (.tmp rfl)) (fun _ => ?_)
   refine WL.sealed (t := tapi_Step) (u := step.1) 5 5 rfl rfl ?_
   refine WL.gv rfl rfl ?_
   refine WL.ns ?_
   refine W.seq ?_
   refine W.sr ?_
   refine WL.mv rfl rfl ?_
   refine WL.op rfl (.notB (.tmp rfl)) ?_
   refine WL.ns ?_
   refine W.cond (.tmp rfl) (fun hc9 => ?_) (fun hc9 => ?_)
   ·have hp10 := not_pos hc9
    rw [if_pos hp10] at hm
    refine W.exit rfl ?_
    have hr11 := Option.some.inj hm
    clear hm
    subst hr11
    have hm := hk3
    try dsimp only at hm
    refine WN.seq ?_
    refine W.sr ?_
    refine WL.mv rfl rfl ?_
    refine WL.gv rfl rfl ?_
    refine WL.ns ?_
    have hr := Option.some.inj hm
    clear hm
    subst hr
    refine W.weakR (res' := [(0, (Bx 3 true 79 (tcitation_reader.is r0_2) b)), (1000001, Dec.Own tapi_Step 50 k1 p1.length)]) ⟨rfl, rfl, ⟨rfl, rfl, trivial⟩⟩ ?_
    refine W.rekey (res' := [(0, (Bx 3 true 79 (tcitation_reader.is r0_2) b)), (77777, Dec.Own tapi_Step 50 k1 p1.length)]) rfl ?_
    exact W.ret1 k1 rfl (.tmp rfl) ⟨rfl, rfl, ⟨rfl, rfl, trivial⟩⟩
   ·have hp10 := not_neg hc9
    rw [if_neg hp10] at hm
    refine W.skip ?_
    refine WN.seq ?_
    refine W.region ?_
    refine WL.mv rfl rfl ?_
    refine WL.op rfl (.load ty50 (.tmp rfl)) ?_
    refine WL.op rfl (.buildSlice (n := 1) (ys := [(0, step.1)]) (z := zapi_Step) (xs := [step.1]) Tryd.underlying22 el50 ze50 ⟨rfl, (.tmp rfl), trivial⟩ (by simp) (by decide) rfl) ?_
    obtain ⟨out, hv12, hm⟩ := bind_some hm
    refine WL.opR rfl (OpR.appC (key := 1000001) hv12 Tryd.underlying22 el50 (.tmp rfl) (.tmp rfl) rfl) (fun k2 => ?_)
    refine WL.gv rfl rfl ?_
    refine WL.nil ?_
    refine WN.block ?_
    exact WN.again n4 ((out, r0_2), k2) (Nat.lt_succ_self n4) hm ⟨Ent.q rfl, Ent.q rfl, trivial⟩ ⟨rfl, rfl, ⟨rfl, rfl, trivial⟩⟩
  ·have hp6 := of_decide_eq_false hc5
   rw [if_neg hp6] at hm
   refine W.exit rfl ?_
   have hr13 := Option.some.inj hm
   clear hm
   subst hr13
   have hm := hk3
   try dsimp only at hm
   refine WN.seq ?_
   refine W.sr ?_
   refine WL.mv rfl rfl ?_
   refine WL.gv rfl rfl ?_
   refine WL.ns ?_
   have hr := Option.some.inj hm
   clear hm
   subst hr
   refine W.weakR (res' := [(0, (Bx 3 true 79 (tcitation_reader.is r0_1) b)), (1000001, Dec.Own tapi_Step 50 k1 p1.length)]) ⟨rfl, rfl, ⟨rfl, rfl, trivial⟩⟩ ?_
   refine W.rekey (res' := [(0, (Bx 3 true 79 (tcitation_reader.is r0_1) b)), (77777, Dec.Own tapi_Step 50 k1 p1.length)]) rfl ?_
   exact W.ret1 k1 rfl (.tmp rfl) ⟨rfl, rfl, ⟨rfl, rfl, trivial⟩⟩
theorem citation_reader_path_spec (n : Nat) (r0_ : citation_reader) (b : Nat) (r : ((List api_Step)) × citation_reader) (hm : M.citation_reader_path n r0_ = some r) : FSpecR Tryd.prog 71 [(Bp b 0)] [(0, (Bx 3 true 79 (tcitation_reader.is r0_) b))] (fun kx : Tok => tO tapi_Step kx r.1) (fun kx : Tok => [(0, (Bx 3 true 79 (tcitation_reader.is r.2) b)), (77777, Dec.Own tapi_Step 50 kx r.1.length)]) := by
 unfold M.citation_reader_path at hm
 refine FSpecR.of Tryd.func71 rfl rfl rfl (fun g0 => ?_)
 refine W.sr ?_
 refine WL.addNil (t := tapi_Step) (E := 50) 2 ?_
 refine WL.op rfl (.assign (Opd.nilO (t := tapi_Step))) ?_
 refine WL.nr ?_
 refine WL.addNil (t := tapi_Step) (E := 50) 3 ?_
 refine WL.op rfl (.assign (Opd.nilO (t := tapi_Step))) ?_
 refine WL.ns ?_
 obtain ⟨s1, hs2, hk3⟩ := bind_some hm
 clear hm
 refine W.join (fun s : ((List api_Step) × citation_reader) × Tok => s.1 = s1) (fun s => [(3, (tO tapi_Step s.2 s.1.1)), (0, (Bp b 0))]) (fun s => [(3, Dec.Own tapi_Step 50 s.2 s.1.1.length), (0, (Bx 3 true 79 (tcitation_reader.is s.1.2) b))]) ?_ ?_
 ·rintro ⟨⟨p, r0_1⟩, k⟩ hj9
  try dsimp only at hj9
  subst hj9
  have hm := hk3
  clear hk3
  try dsimp only at hm
  change W _ _ _ _ _ _ _ [(3, (tO tapi_Step k p)), (0, (Bp b 0))] [(3, Dec.Own tapi_Step 50 k p.length), (0, (Bx 3 true 79 (tcitation_reader.is r0_1) b))]
  refine W.sr ?_
  refine WL.mv rfl rfl ?_
  refine WL.mv rfl rfl ?_
  obtain ⟨⟨more, r0_3⟩, hv8, hm⟩ := bind_some hm
  dsimp only at hm
  refine WL.weakR (res' := [(0, (Bx 3 true 79 (tcitation_reader.is r0_1) b)), (3, Dec.Own tapi_Step 50 k p.length)]) ⟨rfl, rfl, ⟨rfl, rfl, trivial⟩⟩ ?_
  refine WL.opR rfl (OpR.call (us := [0, 3]) (A := fun kx : Tok => (tO tapi_Step kx more)) Tryd.call84 (FSpecR.keys (rin' := [(0, (Bx 3 true 79 (tcitation_reader.is r0_1) b)), (3, Dec.Own tapi_Step 50 k p.length)]) (out' := fun kx : Tok => [(0, (Bx 3 true 79 (tcitation_reader.is r0_3) b)), (12, Dec.Own tapi_Step 50 kx more.length)]) (citation_reader_more_spec _ _ _ _ _ _ hv8) rfl (fun _ => rfl)) rfl ⟨(.tmp rfl), (.tmp rfl), trivial⟩) (fun k2 => ?_)
  refine WL.gv rfl rfl ?_
  refine WL.ns ?_
  have hr := Option.some.inj hm
  clear hm
  subst hr
  refine W.weakR (res' := [(0, (Bx 3 true 79 (tcitation_reader.is r0_3) b)), (12, Dec.Own tapi_Step 50 k2 more.length)]) ⟨rfl, rfl, ⟨rfl, rfl, trivial⟩⟩ ?_
  refine W.rekey (res' := [(0, (Bx 3 true 79 (tcitation_reader.is r0_3) b)), (77777, Dec.Own tapi_Step 50 k2 more.length)]) rfl ?_
  exact W.ret1 k2 rfl (.tmp rfl) ⟨rfl, rfl, ⟨rfl, rfl, trivial⟩⟩
 ·have hm := hs2
  clear hs2
  refine W.sr ?_
  refine WL.mv rfl rfl ?_
  obtain ⟨⟨just, r0_2⟩, hv4, hm⟩ := bind_some hm
  dsimp only at hm
  refine WL.weakR (res' := [(0, (Bx 3 true 79 (tcitation_reader.is r0_) b)), (2, Dec.Own tapi_Step 50 (none : Tok) ([] : List api_Step).length), (3, Dec.Own tapi_Step 50 (none : Tok) ([] : List api_Step).length)]) ⟨rfl, rfl, ⟨rfl, rfl, ⟨rfl, rfl, trivial⟩⟩⟩ ?_
  refine WL.opR rfl (OpR.call (us := [0]) (A := fun kx : Unit => (tB.is just)) Tryd.call74 (FSpecR.keys (rin' := [(0, (Bx 3 true 79 (tcitation_reader.is r0_) b))]) (out' := fun kx : Unit => [(0, (Bx 3 true 79 (tcitation_reader.is r0_2) b))]) (citation_reader_just_spec _ _ _ _ hv4) rfl (fun _ => rfl)) rfl ⟨(.tmp rfl), (.str rfl (by decide)), trivial⟩) (fun _ => ?_)
  refine WL.ns ?_
  refine W.cond (.tmp rfl) (fun hc5 => ?_) (fun hc5 => ?_)
  ·have hp6 := hc5
   rw [if_pos hp6] at hm
   refine W.region ?_
   refine WL.mv rfl rfl ?_
   refine WL.op rfl (.build (s := tapi_Step) (x := (⟨(0 : Int), ([] : Str)⟩ : api_Step)) zapi_Step_f rfl Tryd.underlying50 (zapi_Step_sz _ Tryd.underlying50) ze50 rfl) ?_
   refine WL.op rfl (.buildSlice (n := 1) (ys := [(0, (⟨(0 : Int), ([] : Str)⟩ : api_Step))]) (z := zapi_Step) (xs := [(⟨(0 : Int), ([] : Str)⟩ : api_Step)]) Tryd.underlying22 el50 ze50 ⟨rfl, (.tmp rfl), trivial⟩ (by simp) (by decide) rfl) ?_
   obtain ⟨p1, hv7, hm⟩ := bind_some hm
   refine WL.opR rfl (OpR.appC (key := 3) hv7 Tryd.underlying22 el50 (.tmp rfl) (.tmp rfl) rfl) (fun k1 => ?_)
   refine WL.gv rfl rfl ?_
   refine WL.nil ?_
   exact WN.meet ((p1, r0_2), k1) (Option.some.inj hm) ⟨Ent.q rfl, Ent.q rfl, trivial⟩ ⟨rfl, rfl, ⟨rfl, rfl, trivial⟩⟩
  ·have hp6 := ne_of_false hc5
   rw [if_neg hp6] at hm
   refine W.skip ?_
   exact WN.meet ((([] : List api_Step), r0_2), (none : Tok)) (Option.some.inj hm) ⟨Ent.q rfl, Ent.q rfl, trivial⟩ ⟨rfl, rfl, ⟨rfl, rfl, trivial⟩⟩
theorem citation_forms_1_spec (n : Nat) (r0_ : citation_reader) (b : Nat) (r : api_Cite × citation_reader) (hm : M.citation_forms_1 n r0_ = some r) : FSpecR Tryd.prog 70 [(Bp b 0)] [(0, (Bx 3 true 79 (tcitation_reader.is r0_) b))] (fun kx : Unit => (tapi_Cite.is r.1)) (fun kx : Unit => [(0, (Bx 3 true 79 (tcitation_reader.is r.2) b))]) := by
 unfold M.citation_forms_1 at hm
 refine FSpecR.of Tryd.func70 rfl rfl rfl (fun g0 => ?_)
 refine W.sr ?_
 refine WL.opR rfl (OpR.alloc 2 ze24) (fun b1 => ?_)
 refine WL.nr ?_
 refine WL.mv rfl rfl ?_
 obtain ⟨⟨path, r0_1⟩, hv1, hm⟩ := bind_some hm
 dsimp only at hm
 refine WL.weakR (res' := [(0, (Bx 3 true 79 (tcitation_reader.is r0_) b)), (2, (Bx 5 true 24 (tapi_Cite.is zapi_Cite) b1))]) ⟨rfl, rfl, ⟨rfl, rfl, trivial⟩⟩ ?_
 refine WL.opR rfl (OpR.call (us := [0]) (A := fun kx : Tok => (tO tapi_Step kx path)) Tryd.call71 (FSpecR.keys (rin' := [(0, (Bx 3 true 79 (tcitation_reader.is r0_) b))]) (out' := fun kx : Tok => [(0, (Bx 3 true 79 (tcitation_reader.is r0_1) b)), (4, Dec.Own tapi_Step 50 kx path.length)]) (citation_reader_path_spec _ _ _ _ hv1) rfl (fun _ => rfl)) rfl ⟨(.tmp rfl), trivial⟩) (fun k => ?_)
 refine WL.op rfl (.build (s := tapi_Cite) (x := (⟨(0 : Int), path, ([] : Str), (0 : Int), (0 : Int)⟩ : api_Cite)) zapi_Cite_f rfl Tryd.underlying24 (zapi_Cite_sz _ Tryd.underlying24) ze24 ⟨_, (tL tapi_Step), path, _, _, rfl, Tryd.sizeOf22, (Opd.own (.tmp rfl)), sapi_Cite_1, rfl⟩) ?_
 refine WL.opU (OpR.storeB (b := b1) 2 Tryd.sizeOf24 (Cellable.is tapi_Cite (⟨(0 : Int), path, ([] : Str), (0 : Int), (0 : Int)⟩ : api_Cite)) rfl (.tmp rfl) (.tmp rfl)) (fun _ => ?_)
 refine WL.ns ?_
 cases hm
 exact W.retQ1 () rfl (ResAt.cell 2 Tryd.isAgg24 Tryd.sizeOf24 rfl (.tmp rfl)) ⟨rfl, rfl, trivial⟩
theorem citation_plural_spec  (r : (List Str)) (hm : M.citation_plural  = some r) : FSpec Tryd.prog 59 [] ((tL tS).is r) := by
 unfold M.citation_plural at hm
 refine FSpec.of Tryd.func59 rfl rfl rfl (fun g0 => ?_)
 refine W.sr ?_
 refine WL.op rfl (.assign (.nil (t := tS))) ?_
 refine WL.nr ?_
 refine WL.op rfl (.buildSlice (n := 8) (ys := [(1, ([112, 97, 114, 116, 115] : Str)), (2, ([115, 101, 99, 116, 105, 111, 110, 115] : Str)), (3, ([112, 97, 114, 97, 103, 114, 97, 112, 104, 115] : Str)), (4, ([116, 97, 98, 108, 101, 115] : Str)), (5, ([114, 111, 119, 115] : Str)), (7, ([110, 111, 116, 101, 115] : Str))]) (z := ([] : Str)) (xs := [([] : Str), ([112, 97, 114, 116, 115] : Str), ([115, 101, 99, 116, 105, 111, 110, 115] : Str), ([112, 97, 114, 97, 103, 114, 97, 112, 104, 115] : Str), ([116, 97, 98, 108, 101, 115] : Str), ([114, 111, 119, 115] : Str), ([] : Str), ([110, 111, 116, 101, 115] : Str)]) Tryd.underlying28 el9 ze9 ⟨rfl, (.str rfl (by decide)), rfl, (.str rfl (by decide)), rfl, (.str rfl (by decide)), rfl, (.str rfl (by decide)), rfl, (.str rfl (by decide)), rfl, (.str rfl (by decide)), trivial⟩ (by simp) (by decide) rfl) ?_
 refine WL.gv rfl rfl ?_
 refine WL.ns ?_
 cases hm
 exact W.ret1 () rfl (.tmp rfl) trivial
theorem citation_reader_span_spec (n : Nat) (r0_ : citation_reader) (b : Nat) (r : api_Cite × citation_reader) (hm : M.citation_reader_span n r0_ = some r) : FSpecR Tryd.prog 72 [(Bp b 0)] [(0, (Bx 3 true 79 (tcitation_reader.is r0_) b))] (fun kx : Unit => (tapi_Cite.is r.1)) (fun kx : Unit => [(0, (Bx 3 true 79 (tcitation_reader.is r.2) b))]) := by
 unfold M.citation_reader_span at hm
 refine FSpecR.of Tryd.func72 rfl rfl rfl (fun g0 => ?_)
 refine W.sr ?_
 refine WL.opR rfl (OpR.alloc 2 ze24) (fun b1 => ?_)
 refine WL.nr ?_
 refine WL.mv rfl rfl ?_
 obtain ⟨⟨path, r0_1⟩, hv1, hm⟩ := bind_some hm
 dsimp only at hm
 refine WL.weakR (res' := [(0, (Bx 3 true 79 (tcitation_reader.is r0_) b)), (2, (Bx 5 true 24 (tapi_Cite.is zapi_Cite) b1))]) ⟨rfl, rfl, ⟨rfl, rfl, trivial⟩⟩ ?_
 refine WL.opR rfl (OpR.call (us := [0]) (A := fun kx : Tok => (tO tapi_Step kx path)) Tryd.call71 (FSpecR.keys (rin' := [(0, (Bx 3 true 79 (tcitation_reader.is r0_) b))]) (out' := fun kx : Tok => [(0, (Bx 3 true 79 (tcitation_reader.is r0_1) b)), (7, Dec.Own tapi_Step 50 kx path.length)]) (citation_reader_path_spec _ _ _ _ hv1) rfl (fun _ => rfl)) rfl ⟨(.tmp rfl), trivial⟩) (fun k => ?_)
 refine WL.op rfl (.buildT (s := tapi_Cite) (s' := (tapi_Cite_k1 k)) (x := (⟨(1 : Int), path, ([] : Str), (0 : Int), (0 : Int)⟩ : api_Cite)) zapi_Cite_f rfl Tryd.underlying24 (zapi_Cite_sz _ Tryd.underlying24) ze24 ⟨tapi_Cite, _, (tI .i64), (1 : Int), _, _, rfl, Tryd.sizeOf3, .i64, FldSet.toT sapi_Cite_0, ⟨(tapi_Cite_k1 k), _, (tOT tapi_Step k), path, _, _, rfl, Tryd.sizeOf22, (Opd.toOT (.tmp rfl)), (s0api_Cite_k1 k), ⟨rfl, rfl⟩⟩⟩) ?_
 refine WL.opR rfl (OpR.alloc 3 ze24) (fun b2 => ?_)
 refine WL.opU (OpR.storeB (b := b2) 3 Tryd.sizeOf24 (Cellable.is (tapi_Cite_k1 k) (⟨(1 : Int), path, ([] : Str), (0 : Int), (0 : Int)⟩ : api_Cite)) rfl (.tmp rfl) (.tmp rfl)) (fun _ => ?_)
 refine WL.nil ?_
 refine WN.weakR (res' := [(7, Dec.Own tapi_Step 50 k path.length), (0, (Bx 3 true 79 (tcitation_reader.is r0_1) b)), (2, (Bx 5 true 24 (tapi_Cite.is zapi_Cite) b1)), (3, (Bx 5 true 24 ((tapi_Cite_k1 k).is (⟨(1 : Int), path, ([] : Str), (0 : Int), (0 : Int)⟩ : api_Cite)) b2))]) ⟨rfl, rfl, ⟨rfl, rfl, ⟨rfl, rfl, ⟨rfl, rfl, trivial⟩⟩⟩⟩ ?_
 refine WN.rekey (res' := [(1000003, Dec.Own tapi_Step 50 k path.length), (0, (Bx 3 true 79 (tcitation_reader.is r0_1) b)), (2, (Bx 5 true 24 (tapi_Cite.is zapi_Cite) b1)), (3, (Bx 5 true 24 ((tapi_Cite_k1 k).is (⟨(1 : Int), path, ([] : Str), (0 : Int), (0 : Int)⟩ : api_Cite)) b2))]) rfl ?_
 refine WN.seq ?_
 refine W.sr ?_
 refine WL.mv rfl rfl ?_
 obtain ⟨plural, hv2, hm⟩ := bind_some hm
 refine WL.op rfl (.call Tryd.call59 (citation_plural_spec _ hv2) trivial) ?_
 obtain ⟨⟨step, r0_2⟩, hv3, hm⟩ := bind_some hm
 dsimp only at hm
 refine WL.weakR (res' := [(0, (Bx 3 true 79 (tcitation_reader.is r0_1) b)), (1000003, Dec.Own tapi_Step 50 k path.length), (2, (Bx 5 true 24 (tapi_Cite.is zapi_Cite) b1)), (3, (Bx 5 true 24 ((tapi_Cite_k1 k).is (⟨(1 : Int), path, ([] : Str), (0 : Int), (0 : Int)⟩ : api_Cite)) b2))]) ⟨rfl, rfl, ⟨rfl, rfl, ⟨rfl, rfl, ⟨rfl, rfl, trivial⟩⟩⟩⟩ ?_
 refine WL.opR rfl (OpR.call (us := [0]) (A := fun kx : Unit => (Asn.tuple2 (tapi_Step.is step.1) (tB.is step.2))) Tryd.call85 (FSpecR.keys (rin' := [(0, (Bx 3 true 79 (tcitation_reader.is r0_1) b))]) (out' := fun kx : Unit => [(0, (Bx 3 true 79 (tcitation_reader.is r0_2) b))]) (citation_reader_step_spec _ _ _ _ _ hv3) rfl (fun _ => rfl)) rfl ⟨(.tmp rfl), (.tmp rfl), trivial⟩) (fun _ => ?_)
 refine WL.mv rfl rfl ?_
 refine WL.op rfl (.extract0 (.tmp rfl)) ?_
 refine WL.op rfl (.extract1 (.tmp rfl)) ?_
 refine WL.opR rfl (OpR.alloc 4 ze50) (fun b3 => ?_)
 refine WL.opU (OpR.storeB (b := b3) 4 Tryd.sizeOf50 (Cellable.is tapi_Step step.1) rfl (.tmp rfl) (.tmp rfl)) (fun _ => ?_)
 refine WL.sealed (t := tapi_Step) (u := step.1) 4 4 rfl rfl ?_
 refine WL.gv rfl rfl ?_
 refine WL.ns ?_
 refine W.seq ?_
 obtain ⟨s4, hs5, hk6⟩ := bind_some hm
 clear hm
 refine W.join (fun s : Bool × citation_reader => s = s4) (fun s => [(21, (tB.is s.1)), (0, (Bp b 0)), (2, (Bp b1 0)), (3, (Bp b2 0)), (4, (tapi_Step.ptr step.1))]) (fun s => [(1000003, Dec.Own tapi_Step 50 k path.length), (0, (Bx 3 true 79 (tcitation_reader.is s.2) b)), (2, (Bx 5 true 24 (tapi_Cite.is zapi_Cite) b1)), (3, (Bx 5 true 24 ((tapi_Cite_k1 k).is (⟨(1 : Int), path, ([] : Str), (0 : Int), (0 : Int)⟩ : api_Cite)) b2))]) ?_ ?_
 ·rintro ⟨v, r0_3⟩ hj14
  try dsimp only at hj14
  subst hj14
  have hm := hk6
  clear hk6
  try dsimp only at hm
  change W _ _ _ _ _ _ _ [(21, (tB.is v)), (0, (Bp b 0)), (2, (Bp b1 0)), (3, (Bp b2 0)), (4, (tapi_Step.ptr step.1))] [(1000003, Dec.Own tapi_Step 50 k path.length), (0, (Bx 3 true 79 (tcitation_reader.is r0_3) b)), (2, (Bx 5 true 24 (tapi_Cite.is zapi_Cite) b1)), (3, (Bx 5 true 24 ((tapi_Cite_k1 k).is (⟨(1 : Int), path, ([] : Str), (0 : Int), (0 : Int)⟩ : api_Cite)) b2))]
  refine W.cond (.tmp rfl) (fun hc10 => ?_) (fun hc10 => ?_)
  ·have hp11 := hc10
   rw [if_pos hp11] at hm
   refine W.sr ?_
   refine WL.op rfl (.loadB 3 Tryd.isAgg24 Tryd.sizeOf24 rfl (.tmp rfl)) ?_
   refine WL.opU (OpR.storeB (b := b1) 2 Tryd.sizeOf24 (Cellable.is tapi_Cite (⟨(1 : Int), path, ([] : Str), (0 : Int), (0 : Int)⟩ : api_Cite)) rfl (.tmp rfl) (Opd.leT (leapi_Cite_k1 k) (.tmp rfl))) (fun _ => ?_)
   refine WL.ns ?_
   cases hm
   exact W.retQ1 () rfl (ResAt.cell 2 Tryd.isAgg24 Tryd.sizeOf24 rfl (.tmp rfl)) ⟨rfl, rfl, trivial⟩
  ·have hp11 := ne_of_false hc10
   rw [if_neg hp11] at hm
   refine W.skip ?_
   refine WN.seq ?_
   refine W.sr ?_
   refine WL.op rfl (.fieldAddrB (o := 0) Tryd.underlying24 rfl (fun w => ⟨0, Tryd.sizeOf22 w⟩) (.tmp rfl) rfl) ?_
   refine WL.op rfl (.ofOT (Op1.loadBF (t := (tOT tapi_Step k)) (f := fun x : api_Cite => x.Path) (u := (⟨(1 : Int), path, ([] : Str), (0 : Int), (0 : Int)⟩ : api_Cite)) 3 rfl ⟨ty22.agg, ty22.size⟩ (fapi_Cite_k1_1 k) rfl (.tmp rfl))) ?_
   refine WL.op rfl (.load ty50 (.tmp rfl)) ?_
   refine WL.op rfl (.buildSlice (n := 1) (ys := [(0, step.1)]) (z := zapi_Step) (xs := [step.1]) Tryd.underlying22 el50 ze50 ⟨rfl, (.tmp rfl), trivial⟩ (by simp) (by decide) rfl) ?_
   obtain ⟨out, hv12, hm⟩ := bind_some hm
   refine WL.opR rfl (OpR.appC (key := 1000003) hv12 Tryd.underlying22 el50 (.tmp rfl) (.tmp rfl) rfl) (fun k1 => ?_)
   refine WL.op rfl (.fieldAddrB (o := 0) Tryd.underlying24 rfl (fun w => ⟨0, Tryd.sizeOf22 w⟩) (.tmp rfl) rfl) ?_
   refine WL.opU (OpR.storeBFT (b := b2) (s := (tapi_Cite_k1 k)) (s' := (tapi_Cite_k1 k1)) (t := (tOT tapi_Step k1)) 3 rfl rfl ⟨ty22.agg, ty22.size⟩ (sTapi_Cite_k1 k k1) rfl (show 1 + 1 ≤ 5 by decide) (.tmp rfl) (Opd.toOT (.tmp rfl))) (fun _ => ?_)
   refine WL.nr ?_
   refine WL.mv rfl rfl ?_
   obtain ⟨⟨word, r0_5⟩, hv13, hm⟩ := bind_some hm
   dsimp only at hm
   refine WL.weakR (res' := [(0, (Bx 3 true 79 (tcitation_reader.is r0_3) b)), (1000003, Dec.Own tapi_Step 50 k1 out.length), (2, (Bx 5 true 24 (tapi_Cite.is zapi_Cite) b1)), (3, (Bx 5 true 24 ((tapi_Cite_k1 k1).is ({ (⟨(1 : Int), path, ([] : Str), (0 : Int), (0 : Int)⟩ : api_Cite) with Path := out } : api_Cite)) b2))]) ⟨rfl, rfl, ⟨rfl, rfl, ⟨rfl, rfl, ⟨rfl, rfl, trivial⟩⟩⟩⟩ ?_
   refine WL.opR rfl (OpR.call (us := [0]) (A := fun kx : Unit => (Asn.tuple2 (tS.is word.1) (tB.is word.2))) Tryd.call86 (FSpecR.keys (rin' := [(0, (Bx 3 true 79 (tcitation_reader.is r0_3) b))]) (out' := fun kx : Unit => [(0, (Bx 3 true 79 (tcitation_reader.is r0_5) b))]) (citation_reader_word_spec _ _ _ _ hv13) rfl (fun _ => rfl)) rfl ⟨(.tmp rfl), (Opd.fn Tryd.call35 (fun s hs => label_Valid_spec _ _ _ hs)), trivial⟩) (fun _ => ?_)
   refine WL.mv rfl rfl ?_
   refine WL.op rfl (.extract0 (.tmp rfl)) ?_
   refine WL.op rfl (.extract1 (.tmp rfl)) ?_
   refine WL.op rfl (.fieldAddrB (o := 0) Tryd.underlying24 rfl (fun w => ⟨0, Tryd.sizeOf9 w⟩) (.tmp rfl) rfl) ?_
   refine WL.opU (OpR.storeBF (b := b2) 3 rfl ty9 (sapi_Cite_k1_2 k1) rfl (show 2 + 1 ≤ 5 by decide) (.tmp rfl) (.tmp rfl)) (fun _ => ?_)
   refine WL.nr ?_
   refine WL.op rfl (.loadB 3 Tryd.isAgg24 Tryd.sizeOf24 rfl (.tmp rfl)) ?_
   refine WL.opU (OpR.storeB (b := b1) 2 Tryd.sizeOf24 (Cellable.is tapi_Cite ({ ({ (⟨(1 : Int), path, ([] : Str), (0 : Int), (0 : Int)⟩ : api_Cite) with Path := out } : api_Cite) with To := word.1 } : api_Cite)) rfl (.tmp rfl) (Opd.leT (leapi_Cite_k1 k1) (.tmp rfl))) (fun _ => ?_)
   refine WL.ns ?_
   cases hm
   exact W.retQ1 () rfl (ResAt.cell 2 Tryd.isAgg24 Tryd.sizeOf24 rfl (.tmp rfl)) ⟨rfl, rfl, trivial⟩
 ·have hm := hs5
  clear hs5
  refine W.region ?_
  refine WL.mv rfl rfl ?_
  refine WL.op rfl (.notB (.tmp rfl)) ?_
  refine WL.mv rfl rfl ?_
  rcases bcases (!step.2) with hb7 | hb7
  ·have hp8 := not_pos hb7
   rw [if_pos hp8] at hm
   iterate 3 refine WL.pass rfl rfl rfl rfl hb7 rfl rfl ?_
   refine WL.op rfl (.pickT (.tmp rfl) hb7 .bool) ?_
   refine WL.nil ?_
   exact WN.meet (true, r0_2) (Option.some.inj hm) ⟨Ent.q rfl, Ent.q rfl, Ent.q rfl, Ent.q rfl, Ent.q rfl, trivial⟩ ⟨rfl, rfl, ⟨rfl, rfl, ⟨rfl, rfl, ⟨rfl, rfl, trivial⟩⟩⟩⟩
  ·have hp8 := not_neg hb7
   rw [if_neg hp8] at hm
   refine WL.run rfl rfl rfl rfl hb7 rfl rfl (Op1.move (.tmp rfl)) ?_
   obtain ⟨⟨just, r0_4⟩, hv9, hm⟩ := bind_some hm
   dsimp only at hm
   refine WL.weakR (res' := [(0, (Bx 3 true 79 (tcitation_reader.is r0_2) b)), (1000003, Dec.Own tapi_Step 50 k path.length), (2, (Bx 5 true 24 (tapi_Cite.is zapi_Cite) b1)), (3, (Bx 5 true 24 ((tapi_Cite_k1 k).is (⟨(1 : Int), path, ([] : Str), (0 : Int), (0 : Int)⟩ : api_Cite)) b2))]) ⟨rfl, rfl, ⟨rfl, rfl, ⟨rfl, rfl, ⟨rfl, rfl, trivial⟩⟩⟩⟩ ?_
   refine WL.runR rfl rfl rfl rfl hb7 rfl rfl (OpR.call (us := [0]) (A := fun kx : Unit => (tB.is just)) Tryd.call74 (FSpecR.keys (rin' := [(0, (Bx 3 true 79 (tcitation_reader.is r0_2) b))]) (out' := fun kx : Unit => [(0, (Bx 3 true 79 (tcitation_reader.is r0_4) b))]) (citation_reader_just_spec _ _ _ _ hv9) rfl (fun _ => rfl)) rfl ⟨(.tmp rfl), (.str rfl (by decide)), trivial⟩) (fun _ => ?_)
   refine WL.run rfl rfl rfl rfl hb7 rfl rfl (Op1.notB (.tmp rfl)) ?_
   refine WL.op rfl (.pickF (.tmp rfl) hb7 (.tmp rfl)) ?_
   refine WL.nil ?_
   exact WN.meet (!just, r0_4) (Option.some.inj hm) ⟨Ent.q rfl, Ent.q rfl, Ent.q rfl, Ent.q rfl, Ent.q rfl, trivial⟩ ⟨rfl, rfl, ⟨rfl, rfl, ⟨rfl, rfl, ⟨rfl, rfl, trivial⟩⟩⟩⟩
theorem citation_reader_beside_spec (n : Nat) (r0_ : citation_reader) (b : Nat) (r : ((List api_Step)) × citation_reader) (hm : M.citation_reader_beside n r0_ = some r) : FSpecR Tryd.prog 75 [(Bp b 0)] [(0, (Bx 3 true 79 (tcitation_reader.is r0_) b))] (fun kx : Tok => tO tapi_Step kx r.1) (fun kx : Tok => [(0, (Bx 3 true 79 (tcitation_reader.is r.2) b)), (77777, Dec.Own tapi_Step 50 kx r.1.length)]) := by
 unfold M.citation_reader_beside at hm
 refine FSpecR.of Tryd.func75 rfl rfl rfl (fun g0 => ?_)
 refine W.sr ?_
 refine WL.addNil (t := tapi_Step) (E := 50) 2 ?_
 refine WL.op rfl (.assign (Opd.nilO (t := tapi_Step))) ?_
 refine WL.nr ?_
 refine WL.mv rfl rfl ?_
 obtain ⟨single, hv1, hm⟩ := bind_some hm
 refine WL.op rfl (.call Tryd.call69 (citation_single_spec _ hv1) trivial) ?_
 obtain ⟨⟨kind, r0_1⟩, hv2, hm⟩ := bind_some hm
 dsimp only at hm
 refine WL.weakR (res' := [(0, (Bx 3 true 79 (tcitation_reader.is r0_) b)), (2, Dec.Own tapi_Step 50 (none : Tok) ([] : List api_Step).length)]) ⟨rfl, rfl, ⟨rfl, rfl, trivial⟩⟩ ?_
 refine WL.opR rfl (OpR.call (us := [0]) (A := fun kx : Unit => (Asn.tuple2 ((tI .i64).is kind.1) (tB.is kind.2))) Tryd.call88 (FSpecR.keys (rin' := [(0, (Bx 3 true 79 (tcitation_reader.is r0_) b))]) (out' := fun kx : Unit => [(0, (Bx 3 true 79 (tcitation_reader.is r0_1) b))]) (citation_reader_kind_spec _ _ _ _ _ hv2) rfl (fun _ => rfl)) rfl ⟨(.tmp rfl), (.tmp rfl), trivial⟩) (fun _ => ?_)
 refine WL.mv rfl rfl ?_
 refine WL.op rfl (.extract0 (.tmp rfl)) ?_
 refine WL.op rfl (.extract1 (.tmp rfl)) ?_
 refine WL.gv rfl rfl ?_
 refine WL.gv rfl rfl ?_
 refine WL.ns ?_
 refine W.seq ?_
 refine W.sr ?_
 refine WL.mv rfl rfl ?_
 refine WL.op rfl (.notB (.tmp rfl)) ?_
 refine WL.ns ?_
 refine W.cond (.tmp rfl) (fun hc3 => ?_) (fun hc3 => ?_)
 ·have hp4 := not_pos hc3
  rw [if_pos hp4] at hm
  refine W.sr ?_
  refine WL.addNil (t := tapi_Step) (E := 50) 2 ?_
  refine WL.op rfl (.assign (Opd.nilO (t := tapi_Step))) ?_
  refine WL.ns ?_
  have hr := Option.some.inj hm
  clear hm
  subst hr
  refine W.weakR (res' := [(0, (Bx 3 true 79 (tcitation_reader.is r0_1) b)), (2, Dec.Own tapi_Step 50 (none : Tok) ([] : List api_Step).length)]) ⟨rfl, rfl, ⟨rfl, rfl, trivial⟩⟩ ?_
  refine W.rekey (res' := [(0, (Bx 3 true 79 (tcitation_reader.is r0_1) b)), (77777, Dec.Own tapi_Step 50 (none : Tok) ([] : List api_Step).length)]) rfl ?_
  exact W.ret1 (none : Tok) rfl (.tmp rfl) ⟨rfl, rfl, ⟨rfl, rfl, trivial⟩⟩
 ·have hp4 := not_neg hc3
  rw [if_neg hp4] at hm
  refine W.skip ?_
  refine WN.seq ?_
  refine W.sr ?_
  refine WL.mv rfl rfl ?_
  refine WL.mv rfl rfl ?_
  refine WL.op rfl (.build (s := tapi_Step) (x := (⟨kind.1, ([] : Str)⟩ : api_Step)) zapi_Step_f rfl Tryd.underlying50 (zapi_Step_sz _ Tryd.underlying50) ze50 ⟨_, (tI .i64), kind.1, _, _, rfl, Tryd.sizeOf3, (.tmp rfl), sapi_Step_0, rfl⟩) ?_
  refine WL.opR rfl (OpR.buildSlice (n := 1) (ys := [(0, (⟨kind.1, ([] : Str)⟩ : api_Step))]) (z := zapi_Step) (xs := [(⟨kind.1, ([] : Str)⟩ : api_Step)]) 16 Tryd.underlying22 el50 ze50 ⟨rfl, (.tmp rfl), trivial⟩ (by simp) (by decide) rfl) (fun k => ?_)
  obtain ⟨⟨more, r0_2⟩, hv5, hm⟩ := bind_some hm
  dsimp only at hm
  refine WL.weakR (res' := [(0, (Bx 3 true 79 (tcitation_reader.is r0_1) b)), (16, Dec.Own tapi_Step 50 k ([(⟨kind.1, ([] : Str)⟩ : api_Step)]).length), (2, Dec.Own tapi_Step 50 (none : Tok) ([] : List api_Step).length)]) ⟨rfl, rfl, ⟨rfl, rfl, ⟨rfl, rfl, trivial⟩⟩⟩ ?_
  refine WL.opR rfl (OpR.call (us := [0, 16]) (A := fun kx : Tok => (tO tapi_Step kx more)) Tryd.call84 (FSpecR.keys (rin' := [(0, (Bx 3 true 79 (tcitation_reader.is r0_1) b)), (16, Dec.Own tapi_Step 50 k ([(⟨kind.1, ([] : Str)⟩ : api_Step)]).length)]) (out' := fun kx : Tok => [(0, (Bx 3 true 79 (tcitation_reader.is r0_2) b)), (17, Dec.Own tapi_Step 50 kx more.length)]) (citation_reader_more_spec _ _ _ _ _ _ hv5) rfl (fun _ => rfl)) rfl ⟨(.tmp rfl), (.tmp rfl), trivial⟩) (fun k1 => ?_)
  refine WL.gv rfl rfl ?_
  refine WL.ns ?_
  have hr := Option.some.inj hm
  clear hm
  subst hr
  refine W.weakR (res' := [(0, (Bx 3 true 79 (tcitation_reader.is r0_2) b)), (17, Dec.Own tapi_Step 50 k1 more.length)]) ⟨rfl, rfl, ⟨rfl, rfl, trivial⟩⟩ ?_
  refine W.rekey (res' := [(0, (Bx 3 true 79 (tcitation_reader.is r0_2) b)), (77777, Dec.Own tapi_Step 50 k1 more.length)]) rfl ?_
  exact W.ret1 k1 rfl (.tmp rfl) ⟨rfl, rfl, ⟨rfl, rfl, trivial⟩⟩
theorem citation_forms_2_spec (n : Nat) (r0_ : citation_reader) (b : Nat) (r : api_Cite × citation_reader) (hm : M.citation_forms_2 n r0_ = some r) : FSpecR Tryd.prog 73 [(Bp b 0)] [(0, (Bx 3 true 79 (tcitation_reader.is r0_) b))] (fun kx : Unit => (tapi_Cite.is r.1)) (fun kx : Unit => [(0, (Bx 3 true 79 (tcitation_reader.is r.2) b))]) := by
 unfold M.citation_forms_2 at hm
 refine FSpecR.of Tryd.func73 rfl rfl rfl (fun g0 => ?_)
 refine W.sr ?_
 refine WL.opR rfl (OpR.alloc 2 ze24) (fun b1 => ?_)
 refine WL.ns ?_
 refine W.seq ?_
 refine W.sr ?_
 refine WL.mv rfl rfl ?_
 obtain ⟨⟨just, r0_1⟩, hv1, hm⟩ := bind_some hm
 dsimp only at hm
 refine WL.weakR (res' := [(0, (Bx 3 true 79 (tcitation_reader.is r0_) b)), (2, (Bx 5 true 24 (tapi_Cite.is zapi_Cite) b1))]) ⟨rfl, rfl, ⟨rfl, rfl, trivial⟩⟩ ?_
 refine WL.opR rfl (OpR.call (us := [0]) (A := fun kx : Unit => (tB.is just)) Tryd.call74 (FSpecR.keys (rin' := [(0, (Bx 3 true 79 (tcitation_reader.is r0_) b))]) (out' := fun kx : Unit => [(0, (Bx 3 true 79 (tcitation_reader.is r0_1) b))]) (citation_reader_just_spec _ _ _ _ hv1) rfl (fun _ => rfl)) rfl ⟨(.tmp rfl), (.str rfl (by decide)), trivial⟩) (fun _ => ?_)
 refine WL.op rfl (.notB (.tmp rfl)) ?_
 refine WL.ns ?_
 refine W.cond (.tmp rfl) (fun hc2 => ?_) (fun hc2 => ?_)
 ·have hp3 := not_pos hc2
  rw [if_pos hp3] at hm
  refine W.sr ?_
  refine WL.op rfl (.build (s := tapi_Cite) (x := (⟨(2 : Int), ([] : List api_Step), ([] : Str), (0 : Int), (0 : Int)⟩ : api_Cite)) zapi_Cite_f rfl Tryd.underlying24 (zapi_Cite_sz _ Tryd.underlying24) ze24 ⟨_, (tI .i64), (2 : Int), _, _, rfl, Tryd.sizeOf3, .i64, sapi_Cite_0, rfl⟩) ?_
  refine WL.opU (OpR.storeB (b := b1) 2 Tryd.sizeOf24 (Cellable.is tapi_Cite (⟨(2 : Int), ([] : List api_Step), ([] : Str), (0 : Int), (0 : Int)⟩ : api_Cite)) rfl (.tmp rfl) (.tmp rfl)) (fun _ => ?_)
  refine WL.ns ?_
  cases hm
  exact W.retQ1 () rfl (ResAt.cell 2 Tryd.isAgg24 Tryd.sizeOf24 rfl (.tmp rfl)) ⟨rfl, rfl, trivial⟩
 ·have hp3 := not_neg hc2
  rw [if_neg hp3] at hm
  refine W.skip ?_
  refine WN.seq ?_
  refine W.sr ?_
  refine WL.mv rfl rfl ?_
  obtain ⟨⟨beside, r0_2⟩, hv4, hm⟩ := bind_some hm
  dsimp only at hm
  refine WL.weakR (res' := [(0, (Bx 3 true 79 (tcitation_reader.is r0_1) b)), (2, (Bx 5 true 24 (tapi_Cite.is zapi_Cite) b1))]) ⟨rfl, rfl, ⟨rfl, rfl, trivial⟩⟩ ?_
  refine WL.opR rfl (OpR.call (us := [0]) (A := fun kx : Tok => (tO tapi_Step kx beside)) Tryd.call75 (FSpecR.keys (rin' := [(0, (Bx 3 true 79 (tcitation_reader.is r0_1) b))]) (out' := fun kx : Tok => [(0, (Bx 3 true 79 (tcitation_reader.is r0_2) b)), (8, Dec.Own tapi_Step 50 kx beside.length)]) (citation_reader_beside_spec _ _ _ _ hv4) rfl (fun _ => rfl)) rfl ⟨(.tmp rfl), trivial⟩) (fun k => ?_)
  refine WL.op rfl (.build (s := tapi_Cite) (x := (⟨(2 : Int), beside, ([] : Str), (0 : Int), (0 : Int)⟩ : api_Cite)) zapi_Cite_f rfl Tryd.underlying24 (zapi_Cite_sz _ Tryd.underlying24) ze24 ⟨_, (tI .i64), (2 : Int), _, _, rfl, Tryd.sizeOf3, .i64, sapi_Cite_0, ⟨_, (tL tapi_Step), beside, _, _, rfl, Tryd.sizeOf22, (Opd.own (.tmp rfl)), sapi_Cite_1, rfl⟩⟩) ?_
  refine WL.opU (OpR.storeB (b := b1) 2 Tryd.sizeOf24 (Cellable.is tapi_Cite (⟨(2 : Int), beside, ([] : Str), (0 : Int), (0 : Int)⟩ : api_Cite)) rfl (.tmp rfl) (.tmp rfl)) (fun _ => ?_)
  refine WL.ns ?_
  cases hm
  exact W.retQ1 () rfl (ResAt.cell 2 Tryd.isAgg24 Tryd.sizeOf24 rfl (.tmp rfl)) ⟨rfl, rfl, trivial⟩
theorem citation_forms_3_spec (n : Nat) (r0_ : citation_reader) (b : Nat) (r : api_Cite × citation_reader) (hm : M.citation_forms_3 n r0_ = some r) : FSpecR Tryd.prog 76 [(Bp b 0)] [(0, (Bx 3 true 79 (tcitation_reader.is r0_) b))] (fun kx : Unit => (tapi_Cite.is r.1)) (fun kx : Unit => [(0, (Bx 3 true 79 (tcitation_reader.is r.2) b))]) := by
 unfold M.citation_forms_3 at hm
 refine FSpecR.of Tryd.func76 rfl rfl rfl (fun g0 => ?_)
 refine W.sr ?_
 refine WL.opR rfl (OpR.alloc 2 ze24) (fun b1 => ?_)
 refine WL.ns ?_
 refine W.seq ?_
 obtain ⟨s1, hs2, hk3⟩ := bind_some hm
 clear hm
 refine W.join (fun s : Bool × citation_reader => s = s1) (fun s => [(10, (tB.is s.1)), (0, (Bp b 0)), (2, (Bp b1 0))]) (fun s => [(0, (Bx 3 true 79 (tcitation_reader.is s.2) b)), (2, (Bx 5 true 24 (tapi_Cite.is zapi_Cite) b1))]) ?_ ?_
 ·rintro ⟨v, r0_1⟩ hj11
  try dsimp only at hj11
  subst hj11
  have hm := hk3
  clear hk3
  try dsimp only at hm
  change W _ _ _ _ _ _ _ [(10, (tB.is v)), (0, (Bp b 0)), (2, (Bp b1 0))] [(0, (Bx 3 true 79 (tcitation_reader.is r0_1) b)), (2, (Bx 5 true 24 (tapi_Cite.is zapi_Cite) b1))]
  refine W.cond (.tmp rfl) (fun hc8 => ?_) (fun hc8 => ?_)
  ·have hp9 := hc8
   rw [if_pos hp9] at hm
   refine W.sr ?_
   refine WL.op rfl (.build (s := tapi_Cite) (x := (⟨(3 : Int), ([] : List api_Step), ([] : Str), (0 : Int), (0 : Int)⟩ : api_Cite)) zapi_Cite_f rfl Tryd.underlying24 (zapi_Cite_sz _ Tryd.underlying24) ze24 ⟨_, (tI .i64), (3 : Int), _, _, rfl, Tryd.sizeOf3, .i64, sapi_Cite_0, rfl⟩) ?_
   refine WL.opU (OpR.storeB (b := b1) 2 Tryd.sizeOf24 (Cellable.is tapi_Cite (⟨(3 : Int), ([] : List api_Step), ([] : Str), (0 : Int), (0 : Int)⟩ : api_Cite)) rfl (.tmp rfl) (.tmp rfl)) (fun _ => ?_)
   refine WL.ns ?_
   cases hm
   exact W.retQ1 () rfl (ResAt.cell 2 Tryd.isAgg24 Tryd.sizeOf24 rfl (.tmp rfl)) ⟨rfl, rfl, trivial⟩
  ·have hp9 := ne_of_false hc8
   rw [if_neg hp9] at hm
   refine W.skip ?_
   refine WN.seq ?_
   refine W.sr ?_
   refine WL.mv rfl rfl ?_
   obtain ⟨⟨beside, r0_4⟩, hv10, hm⟩ := bind_some hm
   dsimp only at hm
   refine WL.weakR (res' := [(0, (Bx 3 true 79 (tcitation_reader.is r0_1) b)), (2, (Bx 5 true 24 (tapi_Cite.is zapi_Cite) b1))]) ⟨rfl, rfl, ⟨rfl, rfl, trivial⟩⟩ ?_
   refine WL.opR rfl (OpR.call (us := [0]) (A := fun kx : Tok => (tO tapi_Step kx beside)) Tryd.call75 (FSpecR.keys (rin' := [(0, (Bx 3 true 79 (tcitation_reader.is r0_1) b))]) (out' := fun kx : Tok => [(0, (Bx 3 true 79 (tcitation_reader.is r0_4) b)), (13, Dec.Own tapi_Step 50 kx beside.length)]) (citation_reader_beside_spec _ _ _ _ hv10) rfl (fun _ => rfl)) rfl ⟨(.tmp rfl), trivial⟩) (fun k => ?_)
   refine WL.op rfl (.build (s := tapi_Cite) (x := (⟨(3 : Int), beside, ([] : Str), (0 : Int), (0 : Int)⟩ : api_Cite)) zapi_Cite_f rfl Tryd.underlying24 (zapi_Cite_sz _ Tryd.underlying24) ze24 ⟨_, (tI .i64), (3 : Int), _, _, rfl, Tryd.sizeOf3, .i64, sapi_Cite_0, ⟨_, (tL tapi_Step), beside, _, _, rfl, Tryd.sizeOf22, (Opd.own (.tmp rfl)), sapi_Cite_1, rfl⟩⟩) ?_
   refine WL.opU (OpR.storeB (b := b1) 2 Tryd.sizeOf24 (Cellable.is tapi_Cite (⟨(3 : Int), beside, ([] : Str), (0 : Int), (0 : Int)⟩ : api_Cite)) rfl (.tmp rfl) (.tmp rfl)) (fun _ => ?_)
   refine WL.ns ?_
   cases hm
   exact W.retQ1 () rfl (ResAt.cell 2 Tryd.isAgg24 Tryd.sizeOf24 rfl (.tmp rfl)) ⟨rfl, rfl, trivial⟩
 ·have hm := hs2
  clear hs2
  refine W.region ?_
  refine WL.mv rfl rfl ?_
  obtain ⟨⟨just, r0_2⟩, hv4, hm⟩ := bind_some hm
  dsimp only at hm
  refine WL.weakR (res' := [(0, (Bx 3 true 79 (tcitation_reader.is r0_) b)), (2, (Bx 5 true 24 (tapi_Cite.is zapi_Cite) b1))]) ⟨rfl, rfl, ⟨rfl, rfl, trivial⟩⟩ ?_
  refine WL.opR rfl (OpR.call (us := [0]) (A := fun kx : Unit => (tB.is just)) Tryd.call74 (FSpecR.keys (rin' := [(0, (Bx 3 true 79 (tcitation_reader.is r0_) b))]) (out' := fun kx : Unit => [(0, (Bx 3 true 79 (tcitation_reader.is r0_2) b))]) (citation_reader_just_spec _ _ _ _ hv4) rfl (fun _ => rfl)) rfl ⟨(.tmp rfl), (.str rfl (by decide)), trivial⟩) (fun _ => ?_)
  refine WL.op rfl (.notB (.tmp rfl)) ?_
  refine WL.mv rfl rfl ?_
  rcases bcases (!just) with hb5 | hb5
  ·have hp6 := not_pos hb5
   rw [if_pos hp6] at hm
   iterate 3 refine WL.pass rfl rfl rfl rfl hb5 rfl rfl ?_
   refine WL.op rfl (.pickT (.tmp rfl) hb5 .bool) ?_
   refine WL.nil ?_
   exact WN.meet (true, r0_2) (Option.some.inj hm) ⟨Ent.q rfl, Ent.q rfl, Ent.q rfl, trivial⟩ ⟨rfl, rfl, ⟨rfl, rfl, trivial⟩⟩
  ·have hp6 := not_neg hb5
   rw [if_neg hp6] at hm
   refine WL.run rfl rfl rfl rfl hb5 rfl rfl (Op1.move (.tmp rfl)) ?_
   obtain ⟨⟨just1, r0_3⟩, hv7, hm⟩ := bind_some hm
   dsimp only at hm
   refine WL.weakR (res' := [(0, (Bx 3 true 79 (tcitation_reader.is r0_2) b)), (2, (Bx 5 true 24 (tapi_Cite.is zapi_Cite) b1))]) ⟨rfl, rfl, ⟨rfl, rfl, trivial⟩⟩ ?_
   refine WL.runR rfl rfl rfl rfl hb5 rfl rfl (OpR.call (us := [0]) (A := fun kx : Unit => (tB.is just1)) Tryd.call74 (FSpecR.keys (rin' := [(0, (Bx 3 true 79 (tcitation_reader.is r0_2) b))]) (out' := fun kx : Unit => [(0, (Bx 3 true 79 (tcitation_reader.is r0_3) b))]) (citation_reader_just_spec _ _ _ _ hv7) rfl (fun _ => rfl)) rfl ⟨(.tmp rfl), (.str rfl (by decide)), trivial⟩) (fun _ => ?_)
   refine WL.run rfl rfl rfl rfl hb5 rfl rfl (Op1.notB (.tmp rfl)) ?_
   refine WL.op rfl (.pickF (.tmp rfl) hb5 (.tmp rfl)) ?_
   refine WL.nil ?_
   exact WN.meet (!just1, r0_3) (Option.some.inj hm) ⟨Ent.q rfl, Ent.q rfl, Ent.q rfl, trivial⟩ ⟨rfl, rfl, ⟨rfl, rfl, trivial⟩⟩
theorem citation_forms_4_spec (n : Nat) (r0_ : citation_reader) (b : Nat) (r : api_Cite × citation_reader) (hm : M.citation_forms_4 n r0_ = some r) : FSpecR Tryd.prog 77 [(Bp b 0)] [(0, (Bx 3 true 79 (tcitation_reader.is r0_) b))] (fun kx : Unit => (tapi_Cite.is r.1)) (fun kx : Unit => [(0, (Bx 3 true 79 (tcitation_reader.is r.2) b))]) := by
 unfold M.citation_forms_4 at hm
 refine FSpecR.of Tryd.func77 rfl rfl rfl (fun g0 => ?_)
 refine W.sr ?_
 refine WL.opR rfl (OpR.alloc 2 ze24) (fun b1 => ?_)
 refine WL.ns ?_
 refine W.seq ?_
 refine W.sr ?_
 refine WL.mv rfl rfl ?_
 obtain ⟨⟨just, r0_1⟩, hv1, hm⟩ := bind_some hm
 dsimp only at hm
 refine WL.weakR (res' := [(0, (Bx 3 true 79 (tcitation_reader.is r0_) b)), (2, (Bx 5 true 24 (tapi_Cite.is zapi_Cite) b1))]) ⟨rfl, rfl, ⟨rfl, rfl, trivial⟩⟩ ?_
 refine WL.opR rfl (OpR.call (us := [0]) (A := fun kx : Unit => (tB.is just)) Tryd.call74 (FSpecR.keys (rin' := [(0, (Bx 3 true 79 (tcitation_reader.is r0_) b))]) (out' := fun kx : Unit => [(0, (Bx 3 true 79 (tcitation_reader.is r0_1) b))]) (citation_reader_just_spec _ _ _ _ hv1) rfl (fun _ => rfl)) rfl ⟨(.tmp rfl), (.str rfl (by decide)), trivial⟩) (fun _ => ?_)
 refine WL.op rfl (.notB (.tmp rfl)) ?_
 refine WL.ns ?_
 refine W.cond (.tmp rfl) (fun hc2 => ?_) (fun hc2 => ?_)
 ·have hp3 := not_pos hc2
  rw [if_pos hp3] at hm
  refine W.sr ?_
  refine WL.op rfl (.build (s := tapi_Cite) (x := (⟨(4 : Int), ([] : List api_Step), ([] : Str), (0 : Int), (0 : Int)⟩ : api_Cite)) zapi_Cite_f rfl Tryd.underlying24 (zapi_Cite_sz _ Tryd.underlying24) ze24 ⟨_, (tI .i64), (4 : Int), _, _, rfl, Tryd.sizeOf3, .i64, sapi_Cite_0, rfl⟩) ?_
  refine WL.opU (OpR.storeB (b := b1) 2 Tryd.sizeOf24 (Cellable.is tapi_Cite (⟨(4 : Int), ([] : List api_Step), ([] : Str), (0 : Int), (0 : Int)⟩ : api_Cite)) rfl (.tmp rfl) (.tmp rfl)) (fun _ => ?_)
  refine WL.ns ?_
  cases hm
  exact W.retQ1 () rfl (ResAt.cell 2 Tryd.isAgg24 Tryd.sizeOf24 rfl (.tmp rfl)) ⟨rfl, rfl, trivial⟩
 ·have hp3 := not_neg hc2
  rw [if_neg hp3] at hm
  refine W.skip ?_
  refine WN.seq ?_
  refine W.sr ?_
  refine WL.mv rfl rfl ?_
  obtain ⟨⟨path, r0_2⟩, hv4, hm⟩ := bind_some hm
  dsimp only at hm
  refine WL.weakR (res' := [(0, (Bx 3 true 79 (tcitation_reader.is r0_1) b)), (2, (Bx 5 true 24 (tapi_Cite.is zapi_Cite) b1))]) ⟨rfl, rfl, ⟨rfl, rfl, trivial⟩⟩ ?_
  refine WL.opR rfl (OpR.call (us := [0]) (A := fun kx : Tok => (tO tapi_Step kx path)) Tryd.call71 (FSpecR.keys (rin' := [(0, (Bx 3 true 79 (tcitation_reader.is r0_1) b))]) (out' := fun kx : Tok => [(0, (Bx 3 true 79 (tcitation_reader.is r0_2) b)), (8, Dec.Own tapi_Step 50 kx path.length)]) (citation_reader_path_spec _ _ _ _ hv4) rfl (fun _ => rfl)) rfl ⟨(.tmp rfl), trivial⟩) (fun k => ?_)
  refine WL.op rfl (.build (s := tapi_Cite) (x := (⟨(4 : Int), path, ([] : Str), (0 : Int), (0 : Int)⟩ : api_Cite)) zapi_Cite_f rfl Tryd.underlying24 (zapi_Cite_sz _ Tryd.underlying24) ze24 ⟨_, (tI .i64), (4 : Int), _, _, rfl, Tryd.sizeOf3, .i64, sapi_Cite_0, ⟨_, (tL tapi_Step), path, _, _, rfl, Tryd.sizeOf22, (Opd.own (.tmp rfl)), sapi_Cite_1, rfl⟩⟩) ?_
  refine WL.opU (OpR.storeB (b := b1) 2 Tryd.sizeOf24 (Cellable.is tapi_Cite (⟨(4 : Int), path, ([] : Str), (0 : Int), (0 : Int)⟩ : api_Cite)) rfl (.tmp rfl) (.tmp rfl)) (fun _ => ?_)
  refine WL.ns ?_
  cases hm
  exact W.retQ1 () rfl (ResAt.cell 2 Tryd.isAgg24 Tryd.sizeOf24 rfl (.tmp rfl)) ⟨rfl, rfl, trivial⟩
theorem citation_forms_spec (n : Nat)  (r : (List (citation_reader → Option (api_Cite × citation_reader)))) (hm : M.citation_forms n  = some r) : FSpec Tryd.prog 60 [] ((tL (tFnR Tryd.prog tcitation_reader 79 (fun y : api_Cite => (tapi_Cite.is y)))).is r) := by
 unfold M.citation_forms at hm
 refine FSpec.of Tryd.func60 rfl rfl rfl (fun g0 => ?_)
 refine W.sr ?_
 refine WL.op rfl (.assign (.nil (t := (tFnR Tryd.prog tcitation_reader 79 (fun y : api_Cite => (tapi_Cite.is y)))))) ?_
 refine WL.nr ?_
 refine WL.op rfl (.buildSlice (n := 5) (ys := [(0, (fun s0 => M.citation_forms_1 n s0)), (1, (fun s0 => M.citation_reader_span n s0)), (2, (fun s0 => M.citation_forms_2 n s0)), (3, (fun s0 => M.citation_forms_3 n s0)), (4, (fun s0 => M.citation_forms_4 n s0))]) (z := (fun _ => none : citation_reader → Option (api_Cite × citation_reader))) (xs := [(fun s0 => M.citation_forms_1 n s0), (fun s0 => M.citation_reader_span n s0), (fun s0 => M.citation_forms_2 n s0), (fun s0 => M.citation_forms_3 n s0), (fun s0 => M.citation_forms_4 n s0)]) Tryd.underlying74 el76 ze76 ⟨rfl, (Opd.fnR Tryd.call70 (fun b x y x' h => citation_forms_1_spec _ _ _ _ h)), rfl, (Opd.fnR Tryd.call72 (fun b x y x' h => citation_reader_span_spec _ _ _ _ h)), rfl, (Opd.fnR Tryd.call73 (fun b x y x' h => citation_forms_2_spec _ _ _ _ h)), rfl, (Opd.fnR Tryd.call76 (fun b x y x' h => citation_forms_3_spec _ _ _ _ h)), rfl, (Opd.fnR Tryd.call77 (fun b x y x' h => citation_forms_4_spec _ _ _ _ h)), trivial⟩ (by simp) (by decide) rfl) ?_
 refine WL.gv rfl rfl ?_
 refine WL.ns ?_
 cases hm
 exact W.ret1 () rfl (.tmp rfl) trivial
theorem citation_book_spec (s0_ : api_Step) (r : Bool) (hm : M.citation_book s0_ = some r) : FSpec Tryd.prog 47 [(tapi_Step.is s0_)] (tB.is r) := by
 unfold M.citation_book at hm
 refine FSpec.of Tryd.func47 rfl rfl rfl (fun g0 => ?_)
 refine W.sr ?_
 refine WL.op rfl (.box (.tmp rfl)) ?_
 refine WL.op rfl (.assign .bool) ?_
 refine WL.nr ?_
 refine WL.op rfl (.load ty50 (.tmp rfl)) ?_
 refine WL.op rfl (.build (s := tapi_Step) (x := (⟨(0 : Int), ([] : Str)⟩ : api_Step)) zapi_Step_f rfl Tryd.underlying50 (zapi_Step_sz _ Tryd.underlying50) ze50 ⟨_, (tI .i64), (0 : Int), _, _, rfl, Tryd.sizeOf3, .i64, sapi_Step_0, rfl⟩) ?_
 refine WL.op rfl (.eqSt (D := 2) rfl (by decide) eg50 eq50 (.tmp rfl) (.tmp rfl)) ?_
 refine WL.gv rfl rfl ?_
 refine WL.ns ?_
 cases hm
 exact W.ret1 () rfl (.tmp rfl) trivial
theorem slices_IndexFunc_api_Step_api_Step_spec (n : Nat) (s0_ : List api_Step) (f : api_Step → Option Bool) (r : Int) (hm : M.slices_IndexFunc_api_Step_api_Step n s0_ f = some r) : FSpec Tryd.prog 64 [((tL tapi_Step).is s0_), (tF Tryd.prog (fun s : api_Step × Bool => f s.1 = some s.2) (fun s : api_Step × Bool => [tapi_Step.is s.1]) (fun s : api_Step × Bool => (tB.is s.2)))] ((tI .i64).is r) := by
 unfold M.slices_IndexFunc_api_Step_api_Step at hm
 refine FSpec.of Tryd.func64 rfl rfl rfl (fun g0 => ?_)
 refine W.sr ?_
 refine WL.op rfl (.assign .i64) ?_
 refine WL.ns ?_
 refine W.seq ?_
 refine W.sr ?_
 refine WL.mv rfl rfl ?_
 refine WL.op rfl (.lenL Tryd.underlying22 (.tmp rfl)) ?_
 refine WL.op rfl (.move .i64) ?_
 refine WL.ns ?_
 refine W.block ?_
 obtain ⟨s1, hs2, hk3⟩ := bind_some hm
 clear hm
 refine W.loop (fun m (s : Int) => M.slices_IndexFunc_api_Step_api_Step_loop1 s0_ f m s = some s1) (fun s => [(8, ((tI .i64).is s)), (0, ((tL tapi_Step).is s0_)), (1, (tF Tryd.prog (fun s : api_Step × Bool => f s.1 = some s.2) (fun s : api_Step × Bool => [tapi_Step.is s.1]) (fun s : api_Step × Bool => (tB.is s.2)))), (7, ((tI .i64).is (s0_.length : Int)))]) (fun s => []) _ (0 : Int) hs2 ⟨Ent.q rfl, Ent.q rfl, Ent.q rfl, Ent.q rfl, trivial⟩ trivial ?_
 rintro n4 v hm
 try dsimp only at hm
 change W _ _ _ _ _ _ _ [(8, ((tI .i64).is v)), (0, ((tL tapi_Step).is s0_)), (1, (tF Tryd.prog (fun s : api_Step × Bool => f s.1 = some s.2) (fun s : api_Step × Bool => [tapi_Step.is s.1]) (fun s : api_Step × Bool => (tB.is s.2)))), (7, ((tI .i64).is (s0_.length : Int)))] []
 cases n4 with
 | zero => rw [M.slices_IndexFunc_api_Step_api_Step_loop1.eq_1] at hm; cases hm
 | succ n4 =>
  rw [M.slices_IndexFunc_api_Step_api_Step_loop1.eq_2] at hm
  refine W.sr ?_
  refine WL.op rfl (.ltI (.tmp rfl) (.tmp rfl)) ?_
  refine WL.ns ?_
  refine W.seq ?_
  refine W.cond (.tmp rfl) (fun hc5 => ?_) (fun hc5 => ?_)
  ·have hp6 := of_decide_eq_true hc5
   rw [if_pos hp6] at hm
   refine W.skip ?_
   refine WN.seq ?_
   refine W.seq ?_
   refine W.block ?_
   refine W.sr ?_
   refine WL.mv rfl rfl ?_
   refine WL.gv rfl rfl ?_
   refine WL.nr ?_
   refine WL.mv rfl rfl ?_
   refine WL.mv rfl rfl ?_
   refine WL.mv rfl rfl ?_
   obtain ⟨v1, hv7, hm⟩ := bind_some hm
   refine WL.op rfl (.idx hv7 Tryd.underlying22 Tryd.sizeOf50 (.tmp rfl) (.tmp rfl)) ?_
   refine WL.op rfl (.load ty50 (.tmp rfl)) ?_
   obtain ⟨v2, hv8, hm⟩ := bind_some hm
   refine WL.op rfl (.callF (ok := (fun s : api_Step × Bool => f s.1 = some s.2)) (As := (fun s : api_Step × Bool => [tapi_Step.is s.1])) (A := (fun s : api_Step × Bool => (tB.is s.2))) (s := (v1, v2)) (.tmp rfl) hv8 ⟨(.tmp rfl), trivial⟩) ?_
   refine WL.ns ?_
   refine W.cond (.tmp rfl) (fun hc9 => ?_) (fun hc9 => ?_)
   ·have hp10 := hc9
    rw [if_pos hp10] at hm
    refine W.sr ?_
    refine WL.mv rfl rfl ?_
    refine WL.gv rfl rfl ?_
    refine WL.ns ?_
    have hr11 := Option.some.inj hm
    clear hm
    subst hr11
    have hm := hk3
    try dsimp only at hm
    cases hm
    exact W.ret1 () rfl (.tmp rfl) trivial
   ·have hp10 := ne_of_false hc9
    rw [if_neg hp10] at hm
    refine W.skip ?_
    refine WN.block ?_
    refine WN.seq ?_
    refine W.region ?_
    refine WL.lenL (s := 0) (.tmp rfl) fun hl12 => ?_
    refine WL.op rfl (.addI1 (.tmp rfl) .i64 hp6 hl12) ?_
    refine WL.mv rfl rfl ?_
    refine WL.nil ?_
    exact WN.again n4 (v + 1) (Nat.lt_succ_self n4) hm ⟨Ent.q rfl, Ent.q rfl, Ent.q rfl, Ent.q rfl, trivial⟩ trivial
  ·have hp6 := of_decide_eq_false hc5
   rw [if_neg hp6] at hm
   refine W.exit rfl ?_
   have hr13 := Option.some.inj hm
   clear hm
   subst hr13
   have hm := hk3
   try dsimp only at hm
   refine WN.seq ?_
   refine W.sr ?_
   refine WL.op rfl (.assign .i64) ?_
   refine WL.ns ?_
   cases hm
   exact W.ret1 () rfl (.tmp rfl) trivial
theorem slices_ContainsFunc_api_Step_api_Step_spec (n : Nat) (s0_ : List api_Step) (f : api_Step → Option Bool) (r : Bool) (hm : M.slices_ContainsFunc_api_Step_api_Step n s0_ f = some r) : FSpec Tryd.prog 48 [((tL tapi_Step).is s0_), (tF Tryd.prog (fun s : api_Step × Bool => f s.1 = some s.2) (fun s : api_Step × Bool => [tapi_Step.is s.1]) (fun s : api_Step × Bool => (tB.is s.2)))] (tB.is r) := by
 unfold M.slices_ContainsFunc_api_Step_api_Step at hm
 refine FSpec.of Tryd.func48 rfl rfl rfl (fun g0 => ?_)
 refine W.sr ?_
 refine WL.op rfl (.assign .bool) ?_
 refine WL.nr ?_
 refine WL.mv rfl rfl ?_
 refine WL.mv rfl rfl ?_
 obtain ⟨step, hv1, hm⟩ := bind_some hm
 refine WL.op rfl (.call Tryd.call64 (slices_IndexFunc_api_Step_api_Step_spec _ _ _ _ hv1) ⟨(.tmp rfl), (.tmp rfl), trivial⟩) ?_
 refine WL.op rfl (.geI (.tmp rfl) .i64) ?_
 refine WL.gv rfl rfl ?_
 refine WL.ns ?_
 cases hm
 exact W.ret1 () rfl (.tmp rfl) trivial
theorem citation_named_spec (n : Nat) (s0_ : api_Step) (r : Bool) (hm : M.citation_named n s0_ = some r) : FSpec Tryd.prog 50 [(tapi_Step.is s0_)] (tB.is r) := by
 unfold M.citation_named at hm
 refine FSpec.of Tryd.func50 rfl rfl rfl (fun g0 => ?_)
 refine W.sr ?_
 refine WL.op rfl (.box (.tmp rfl)) ?_
 refine WL.op rfl (.assign .bool) ?_
 refine WL.nr ?_
 refine WL.op rfl (.fieldAddr Tryd.underlying50 rfl (fun w => ⟨0, Tryd.sizeOf3 w⟩) fapi_Step_0 (.tmp rfl)) ?_
 refine WL.op rfl (.load ty3 (.tmp rfl)) ?_
 refine WL.op rfl (.geI (.tmp rfl) .i64) ?_
 refine WL.mv rfl rfl ?_
 rcases bcases (decide ((1 : Int) ≤ s0_.Kind)) with hb1 | hb1
 ·have hp2 := of_decide_eq_true hb1
  rw [if_pos hp2] at hm
  refine WL.run rfl rfl rfl rfl hb1 rfl rfl (Op1.fieldAddr Tryd.underlying50 rfl (fun w => ⟨0, Tryd.sizeOf3 w⟩) fapi_Step_0 (.tmp rfl)) ?_
  refine WL.run rfl rfl rfl rfl hb1 rfl rfl (Op1.load ty3 (.tmp rfl)) ?_
  refine WL.run rfl rfl rfl rfl hb1 rfl rfl (Op1.leI (.tmp rfl) .i64) ?_
  refine WL.op rfl (.pickT (.tmp rfl) hb1 (.tmp rfl)) ?_
  refine WL.mv rfl rfl ?_
  rcases bcases (decide (s0_.Kind ≤ (7 : Int))) with hb3 | hb3
  ·have hp4 := of_decide_eq_true hb3
   rw [if_pos hp4] at hm
   refine WL.run rfl rfl rfl rfl hb3 rfl rfl (Op1.fieldAddr Tryd.underlying50 rfl (fun w => ⟨0, Tryd.sizeOf9 w⟩) fapi_Step_1 (.tmp rfl)) ?_
   refine WL.run rfl rfl rfl rfl hb3 rfl rfl (Op1.load ty9 (.tmp rfl)) ?_
   obtain ⟨valid, hv5, hm⟩ := bind_some hm
   refine WL.run rfl rfl rfl rfl hb3 rfl rfl (Op1.call Tryd.call35 (label_Valid_spec _ _ _ hv5) ⟨(.tmp rfl), trivial⟩) ?_
   refine WL.op rfl (.pickT (.tmp rfl) hb3 (.tmp rfl)) ?_
   refine WL.gv rfl rfl ?_
   refine WL.ns ?_
   cases hm
   exact W.ret1 () rfl (.tmp rfl) trivial
  ·have hp4 := of_decide_eq_false hb3
   rw [if_neg hp4] at hm
   iterate 3 refine WL.pass rfl rfl rfl rfl hb3 rfl rfl ?_
   refine WL.op rfl (.pickF (.tmp rfl) hb3 .bool) ?_
   refine WL.gv rfl rfl ?_
   refine WL.ns ?_
   cases hm
   exact W.ret1 () rfl (.tmp rfl) trivial
 ·have hp2 := of_decide_eq_false hb1
  rw [if_neg hp2] at hm
  iterate 3 refine WL.pass rfl rfl rfl rfl hb1 rfl rfl ?_
  refine WL.op rfl (.pickF (.tmp rfl) hb1 .bool) ?_
  refine WL.mv rfl rfl ?_
  iterate 3 refine WL.pass rfl rfl rfl rfl rfl rfl rfl ?_
  refine WL.op rfl (.pickF (.tmp rfl) rfl .bool) ?_
  refine WL.gv rfl rfl ?_
  refine WL.ns ?_
  cases hm
  exact W.ret1 () rfl (.tmp rfl) trivial
theorem citation_plain_1_spec (n : Nat) (s0_ : api_Step) (r : Bool) (hm : M.citation_plain_1 n s0_ = some r) : FSpec Tryd.prog 49 [(tapi_Step.is s0_)] (tB.is r) := by
 unfold M.citation_plain_1 at hm
 refine FSpec.of Tryd.func49 rfl rfl rfl (fun g0 => ?_)
 refine W.sr ?_
 refine WL.op rfl (.box (.tmp rfl)) ?_
 refine WL.op rfl (.assign .bool) ?_
 refine WL.nr ?_
 refine WL.op rfl (.load ty50 (.tmp rfl)) ?_
 obtain ⟨named, hv1, hm⟩ := bind_some hm
 refine WL.op rfl (.call Tryd.call50 (citation_named_spec _ _ _ hv1) ⟨(.tmp rfl), trivial⟩) ?_
 refine WL.op rfl (.notB (.tmp rfl)) ?_
 refine WL.gv rfl rfl ?_
 refine WL.ns ?_
 cases hm
 exact W.ret1 () rfl (.tmp rfl) trivial
theorem citation_plain_spec (n : Nat) (p : List api_Step) (r : Bool) (hm : M.citation_plain n p = some r) : FSpec Tryd.prog 34 [((tL tapi_Step).is p)] (tB.is r) := by
 unfold M.citation_plain at hm
 refine FSpec.of Tryd.func34 rfl rfl rfl (fun g0 => ?_)
 refine W.sr ?_
 refine WL.op rfl (.assign .bool) ?_
 refine WL.ns ?_
 obtain ⟨s1, hs2, hk3⟩ := bind_some hm
 clear hm
 refine W.join (fun s : (List api_Step) => s = s1) (fun s => [(0, ((tL tapi_Step).is s))]) (fun s => []) ?_ ?_
 ·rintro p1 hj14
  try dsimp only at hj14
  subst hj14
  have hm := hk3
  clear hk3
  try dsimp only at hm
  change W _ _ _ _ _ _ _ [(0, ((tL tapi_Step).is p1))] []
  refine W.sr ?_
  refine WL.mv rfl rfl ?_
  refine WL.op rfl (.lenL Tryd.underlying22 (.tmp rfl)) ?_
  refine WL.op rfl (.gtI (.tmp rfl) .i64) ?_
  refine WL.mv rfl rfl ?_
  rcases bcases (decide ((0 : Int) < (p1.length : Int))) with hb11 | hb11
  ·have hp12 := of_decide_eq_true hb11
   rw [if_pos hp12] at hm
   refine WL.run rfl rfl rfl rfl hb11 rfl rfl (Op1.move (.tmp rfl)) ?_
   obtain ⟨step, hv13, hm⟩ := bind_some hm
   refine WL.run rfl rfl rfl rfl hb11 rfl rfl (Op1.call Tryd.call48 (slices_ContainsFunc_api_Step_api_Step_spec _ _ _ _ hv13) ⟨(.tmp rfl), (Opd.fn Tryd.call49 (fun s hs => citation_plain_1_spec _ _ _ hs)), trivial⟩) ?_
   refine WL.run rfl rfl rfl rfl hb11 rfl rfl (Op1.notB (.tmp rfl)) ?_
   refine WL.op rfl (.pickT (.tmp rfl) hb11 (.tmp rfl)) ?_
   refine WL.gv rfl rfl ?_
   refine WL.ns ?_
   cases hm
   exact W.ret1 () rfl (.tmp rfl) trivial
  ·have hp12 := of_decide_eq_false hb11
   rw [if_neg hp12] at hm
   iterate 3 refine WL.pass rfl rfl rfl rfl hb11 rfl rfl ?_
   refine WL.op rfl (.pickF (.tmp rfl) hb11 .bool) ?_
   refine WL.gv rfl rfl ?_
   refine WL.ns ?_
   cases hm
   exact W.ret1 () rfl (.tmp rfl) trivial
 ·have hm := hs2
  clear hs2
  refine W.sr ?_
  refine WL.mv rfl rfl ?_
  refine WL.op rfl (.lenL Tryd.underlying22 (.tmp rfl)) ?_
  refine WL.op rfl (.gtI (.tmp rfl) .i64) ?_
  refine WL.mv rfl rfl ?_
  rcases bcases (decide ((0 : Int) < (p.length : Int))) with hb4 | hb4
  ·have hp5 := of_decide_eq_true hb4
   rw [if_pos hp5] at hm
   refine WL.run rfl rfl rfl rfl hb4 rfl rfl (Op1.move (.tmp rfl)) ?_
   obtain ⟨v, hv6, hm⟩ := bind_some hm
   refine WL.run rfl rfl rfl rfl hb4 rfl rfl (Op1.idx hv6 Tryd.underlying22 Tryd.sizeOf50 (.tmp rfl) .i64) ?_
   refine WL.run rfl rfl rfl rfl hb4 rfl rfl (Op1.load ty50 (.tmp rfl)) ?_
   obtain ⟨book, hv7, hm⟩ := bind_some hm
   refine WL.run rfl rfl rfl rfl hb4 rfl rfl (Op1.call Tryd.call47 (citation_book_spec _ _ hv7) ⟨(.tmp rfl), trivial⟩) ?_
   refine WL.op rfl (.pickT (.tmp rfl) hb4 (.tmp rfl)) ?_
   refine WL.ns ?_
   refine W.cond (.tmp rfl) (fun hc8 => ?_) (fun hc8 => ?_)
   ·have hp9 := hc8
    rw [if_pos hp9] at hm
    refine W.region ?_
    refine WL.mv rfl rfl ?_
    obtain ⟨v1, hv10, hm⟩ := bind_some hm
    refine WL.op rfl (.slcLo hv10 Tryd.underlying22 Tryd.sizeOf50 (.tmp rfl) .i64) ?_
    refine WL.gv rfl rfl ?_
    refine WL.nil ?_
    exact WN.meet v1 (Option.some.inj hm) ⟨Ent.q rfl, trivial⟩ trivial
   ·have hp9 := ne_of_false hc8
    rw [if_neg hp9] at hm
    refine W.skip ?_
    exact WN.meet p (Option.some.inj hm) ⟨Ent.q rfl, trivial⟩ trivial
  ·have hp5 := of_decide_eq_false hb4
   rw [if_neg hp5] at hm
   iterate 4 refine WL.pass rfl rfl rfl rfl hb4 rfl rfl ?_
   refine WL.op rfl (.pickF (.tmp rfl) hb4 .bool) ?_
   refine WL.ns ?_
   refine W.condF (.tmp rfl) ?_
   refine W.skip ?_
   exact WN.meet p (Option.some.inj hm) ⟨Ent.q rfl, trivial⟩ trivial
theorem citation_near_1_spec (n : Nat) (s0_ : api_Step) (r : Bool) (hm : M.citation_near_1 n s0_ = some r) : FSpec Tryd.prog 54 [(tapi_Step.is s0_)] (tB.is r) := by
 unfold M.citation_near_1 at hm
 refine FSpec.of Tryd.func54 rfl rfl rfl (fun g0 => ?_)
 refine W.sr ?_
 refine WL.op rfl (.box (.tmp rfl)) ?_
 refine WL.op rfl (.assign .bool) ?_
 refine WL.nr ?_
 refine WL.op rfl (.load ty50 (.tmp rfl)) ?_
 obtain ⟨named, hv1, hm⟩ := bind_some hm
 refine WL.op rfl (.call Tryd.call50 (citation_named_spec _ _ _ hv1) ⟨(.tmp rfl), trivial⟩) ?_
 refine WL.op rfl (.notB (.tmp rfl)) ?_
 refine WL.gv rfl rfl ?_
 refine WL.ns ?_
 cases hm
 exact W.ret1 () rfl (.tmp rfl) trivial
theorem citation_near_spec (n : Nat) (p : List api_Step) (r : Bool) (hm : M.citation_near n p = some r) : FSpec Tryd.prog 36 [((tL tapi_Step).is p)] (tB.is r) := by
 unfold M.citation_near at hm
 refine FSpec.of Tryd.func36 rfl rfl rfl (fun g0 => ?_)
 refine W.sr ?_
 refine WL.op rfl (.assign .bool) ?_
 refine WL.ns ?_
 refine W.seq ?_
 obtain ⟨s1, hs2, hk3⟩ := bind_some hm
 clear hm
 refine W.join (fun s : Bool => s = s1) (fun s => [(26, (tB.is s)), (0, ((tL tapi_Step).is p))]) (fun s => []) ?_ ?_
 ·rintro v hj17
  try dsimp only at hj17
  subst hj17
  have hm := hk3
  clear hk3
  try dsimp only at hm
  change W _ _ _ _ _ _ _ [(26, (tB.is v)), (0, ((tL tapi_Step).is p))] []
  refine W.cond (.tmp rfl) (fun hc13 => ?_) (fun hc13 => ?_)
  ·have hp14 := hc13
   rw [if_pos hp14] at hm
   refine W.sr ?_
   refine WL.op rfl (.assign .bool) ?_
   refine WL.ns ?_
   cases hm
   exact W.ret1 () rfl (.tmp rfl) trivial
  ·have hp14 := ne_of_false hc13
   rw [if_neg hp14] at hm
   refine W.skip ?_
   refine WN.seq ?_
   refine W.sr ?_
   refine WL.mv rfl rfl ?_
   obtain ⟨v4, hv15, hm⟩ := bind_some hm
   refine WL.op rfl (.slcLo hv15 Tryd.underlying22 Tryd.sizeOf50 (.tmp rfl) .i64) ?_
   obtain ⟨step, hv16, hm⟩ := bind_some hm
   refine WL.op rfl (.call Tryd.call48 (slices_ContainsFunc_api_Step_api_Step_spec _ _ _ _ hv16) ⟨(.tmp rfl), (Opd.fn Tryd.call54 (fun s hs => citation_near_1_spec _ _ _ hs)), trivial⟩) ?_
   refine WL.op rfl (.notB (.tmp rfl)) ?_
   refine WL.gv rfl rfl ?_
   refine WL.ns ?_
   cases hm
   exact W.ret1 () rfl (.tmp rfl) trivial
 ·have hm := hs2
  clear hs2
  refine W.region ?_
  refine WL.mv rfl rfl ?_
  refine WL.op rfl (.lenL Tryd.underlying22 (.tmp rfl)) ?_
  refine WL.op rfl (.eqI (.tmp rfl) .i64) ?_
  refine WL.mv rfl rfl ?_
  rcases bcases (decide ((p.length : Int) = (0 : Int))) with hb4 | hb4
  ·have hp5 := of_decide_eq_true hb4
   rw [if_pos hp5] at hm
   iterate 5 refine WL.pass rfl rfl rfl rfl hb4 rfl rfl ?_
   refine WL.op rfl (.pickT (.tmp rfl) hb4 .bool) ?_
   refine WL.mv rfl rfl ?_
   iterate 5 refine WL.pass rfl rfl rfl rfl rfl rfl rfl ?_
   refine WL.op rfl (.pickT (.tmp rfl) rfl .bool) ?_
   refine WL.mv rfl rfl ?_
   iterate 5 refine WL.pass rfl rfl rfl rfl rfl rfl rfl ?_
   refine WL.op rfl (.pickT (.tmp rfl) rfl .bool) ?_
   refine WL.nil ?_
   exact WN.meet true (Option.some.inj hm) ⟨Ent.q rfl, Ent.q rfl, trivial⟩ trivial
  ·have hp5 := of_decide_eq_false hb4
   rw [if_neg hp5] at hm
   refine WL.run rfl rfl rfl rfl hb4 rfl rfl (Op1.move (.tmp rfl)) ?_
   obtain ⟨v1, hv6, hm⟩ := bind_some hm
   refine WL.run rfl rfl rfl rfl hb4 rfl rfl (Op1.idx hv6 Tryd.underlying22 Tryd.sizeOf50 (.tmp rfl) .i64) ?_
   refine WL.run rfl rfl rfl rfl hb4 rfl rfl (Op1.fieldAddr Tryd.underlying50 rfl (fun w => ⟨0, Tryd.sizeOf9 w⟩) fapi_Step_1 (.tmp rfl)) ?_
   refine WL.run rfl rfl rfl rfl hb4 rfl rfl (Op1.load ty9 (.tmp rfl)) ?_
   refine WL.run rfl rfl rfl rfl hb4 rfl rfl (Op1.neS (.tmp rfl) (.str rfl (by decide))) ?_
   refine WL.op rfl (.pickF (.tmp rfl) hb4 (.tmp rfl)) ?_
   refine WL.mv rfl rfl ?_
   rcases bcases (v1.Label != ([] : Str)) with hb7 | hb7
   ·have hp8 := hb7
    rw [if_pos hp8] at hm
    iterate 5 refine WL.pass rfl rfl rfl rfl hb7 rfl rfl ?_
    refine WL.op rfl (.pickT (.tmp rfl) hb7 .bool) ?_
    refine WL.mv rfl rfl ?_
    iterate 5 refine WL.pass rfl rfl rfl rfl rfl rfl rfl ?_
    refine WL.op rfl (.pickT (.tmp rfl) rfl .bool) ?_
    refine WL.nil ?_
    exact WN.meet true (Option.some.inj hm) ⟨Ent.q rfl, Ent.q rfl, trivial⟩ trivial
   ·have hp8 := ne_of_false hb7
    rw [if_neg hp8] at hm
    refine WL.run rfl rfl rfl rfl hb7 rfl rfl (Op1.move (.tmp rfl)) ?_
    obtain ⟨v2, hv9, hm⟩ := bind_some hm
    refine WL.run rfl rfl rfl rfl hb7 rfl rfl (Op1.idx hv9 Tryd.underlying22 Tryd.sizeOf50 (.tmp rfl) .i64) ?_
    refine WL.run rfl rfl rfl rfl hb7 rfl rfl (Op1.fieldAddr Tryd.underlying50 rfl (fun w => ⟨0, Tryd.sizeOf3 w⟩) fapi_Step_0 (.tmp rfl)) ?_
    refine WL.run rfl rfl rfl rfl hb7 rfl rfl (Op1.load ty3 (.tmp rfl)) ?_
    refine WL.run rfl rfl rfl rfl hb7 rfl rfl (Op1.ltI (.tmp rfl) .i64) ?_
    refine WL.op rfl (.pickF (.tmp rfl) hb7 (.tmp rfl)) ?_
    refine WL.mv rfl rfl ?_
    rcases bcases (decide (v2.Kind < (1 : Int))) with hb10 | hb10
    ·have hp11 := of_decide_eq_true hb10
     rw [if_pos hp11] at hm
     iterate 5 refine WL.pass rfl rfl rfl rfl hb10 rfl rfl ?_
     refine WL.op rfl (.pickT (.tmp rfl) hb10 .bool) ?_
     refine WL.nil ?_
     exact WN.meet true (Option.some.inj hm) ⟨Ent.q rfl, Ent.q rfl, trivial⟩ trivial
    ·have hp11 := of_decide_eq_false hb10
     rw [if_neg hp11] at hm
     refine WL.run rfl rfl rfl rfl hb10 rfl rfl (Op1.move (.tmp rfl)) ?_
     obtain ⟨v3, hv12, hm⟩ := bind_some hm
     refine WL.run rfl rfl rfl rfl hb10 rfl rfl (Op1.idx hv12 Tryd.underlying22 Tryd.sizeOf50 (.tmp rfl) .i64) ?_
     refine WL.run rfl rfl rfl rfl hb10 rfl rfl (Op1.fieldAddr Tryd.underlying50 rfl (fun w => ⟨0, Tryd.sizeOf3 w⟩) fapi_Step_0 (.tmp rfl)) ?_
     refine WL.run rfl rfl rfl rfl hb10 rfl rfl (Op1.load ty3 (.tmp rfl)) ?_
     refine WL.run rfl rfl rfl rfl hb10 rfl rfl (Op1.gtI (.tmp rfl) .i64) ?_
     refine WL.op rfl (.pickF (.tmp rfl) hb10 (.tmp rfl)) ?_
     refine WL.nil ?_
     exact WN.meet (decide ((7 : Int) < v3.Kind)) (Option.some.inj hm) ⟨Ent.q rfl, Ent.q rfl, trivial⟩ trivial
theorem citation_Valid_spec (n : Nat) (c : api_Cite) (r : Bool) (hm : M.citation_Valid n c = some r) : FSpec Tryd.prog 15 [(tapi_Cite.is c)] (tB.is r) := by
 unfold M.citation_Valid at hm
 refine FSpec.of Tryd.func15 rfl rfl rfl (fun g0 => ?_)
 refine W.sr ?_
 refine WL.op rfl (.box (.tmp rfl)) ?_
 refine WL.op rfl (.assign .bool) ?_
 refine WL.ns ?_
 refine W.seq ?_
 obtain ⟨s1, hs2, hk3⟩ := bind_some hm
 clear hm
 refine W.join (fun s : Bool => s = s1) (fun s => [(15, (tB.is s)), (1, (tapi_Cite.ptr c))]) (fun s => []) ?_ ?_
 ·rintro v hj36
  try dsimp only at hj36
  subst hj36
  have hm := hk3
  clear hk3
  try dsimp only at hm
  change W _ _ _ _ _ _ _ [(15, (tB.is v)), (1, (tapi_Cite.ptr c))] []
  refine W.cond (.tmp rfl) (fun hc6 => ?_) (fun hc6 => ?_)
  ·have hp7 := hc6
   rw [if_pos hp7] at hm
   refine W.sr ?_
   refine WL.op rfl (.assign .bool) ?_
   refine WL.ns ?_
   cases hm
   exact W.ret1 () rfl (.tmp rfl) trivial
  ·have hp7 := ne_of_false hc6
   rw [if_neg hp7] at hm
   refine W.skip ?_
   refine WN.seq ?_
   refine W.seq ?_
   refine W.sr ?_
   refine WL.op rfl (.fieldAddr Tryd.underlying24 rfl (fun w => ⟨0, Tryd.sizeOf3 w⟩) fapi_Cite_0 (.tmp rfl)) ?_
   refine WL.op rfl (.load ty3 (.tmp rfl)) ?_
   refine WL.ns ?_
   refine W.block ?_
   obtain ⟨s8, hs9, hk10⟩ := bind_some hm
   clear hm
   refine W.join (fun s : Bool => s = s8) (fun s => [(18, (tB.is s)), (1, (tapi_Cite.ptr c)), (17, ((tI .i64).is c.Kind))]) (fun s => []) ?_ ?_
   ·rintro v1 hj35
    try dsimp only at hj35
    subst hj35
    have hm := hk10
    clear hk10
    try dsimp only at hm
    change W _ _ _ _ _ _ _ [(18, (tB.is v1)), (1, (tapi_Cite.ptr c)), (17, ((tI .i64).is c.Kind))] []
    refine W.cond (.tmp rfl) (fun hc13 => ?_) (fun hc13 => ?_)
    ·have hp14 := hc13
     rw [if_pos hp14] at hm
     refine W.sr ?_
     refine WL.op rfl (.fieldAddr Tryd.underlying24 rfl (fun w => ⟨0, Tryd.sizeOf22 w⟩) fapi_Cite_1 (.tmp rfl)) ?_
     refine WL.op rfl (.load ty22 (.tmp rfl)) ?_
     obtain ⟨plain, hv15, hm⟩ := bind_some hm
     refine WL.op rfl (.call Tryd.call34 (citation_plain_spec _ _ _ hv15) ⟨(.tmp rfl), trivial⟩) ?_
     refine WL.gv rfl rfl ?_
     refine WL.ns ?_
     cases hm
     exact W.ret1 () rfl (.tmp rfl) trivial
    ·have hp14 := ne_of_false hc13
     rw [if_neg hp14] at hm
     refine W.sr ?_
     refine WL.op rfl (.eqI (.tmp rfl) .i64) ?_
     refine WL.gv rfl rfl ?_
     refine WL.ns ?_
     refine W.cond (.tmp rfl) (fun hc16 => ?_) (fun hc16 => ?_)
     ·have hp17 := of_decide_eq_true hc16
      rw [if_pos hp17] at hm
      refine W.sr ?_
      refine WL.op rfl (.fieldAddr Tryd.underlying24 rfl (fun w => ⟨0, Tryd.sizeOf22 w⟩) fapi_Cite_1 (.tmp rfl)) ?_
      refine WL.op rfl (.load ty22 (.tmp rfl)) ?_
      obtain ⟨plain1, hv18, hm⟩ := bind_some hm
      refine WL.op rfl (.call Tryd.call34 (citation_plain_spec _ _ _ hv18) ⟨(.tmp rfl), trivial⟩) ?_
      refine WL.mv rfl rfl ?_
      rcases bcases (plain1) with hb19 | hb19
      ·have hp20 := hb19
       rw [if_pos hp20] at hm
       refine WL.run rfl rfl rfl rfl hb19 rfl rfl (Op1.fieldAddr Tryd.underlying24 rfl (fun w => ⟨0, Tryd.sizeOf9 w⟩) fapi_Cite_2 (.tmp rfl)) ?_
       refine WL.run rfl rfl rfl rfl hb19 rfl rfl (Op1.load ty9 (.tmp rfl)) ?_
       obtain ⟨valid, hv21, hm⟩ := bind_some hm
       refine WL.run rfl rfl rfl rfl hb19 rfl rfl (Op1.call Tryd.call35 (label_Valid_spec _ _ _ hv21) ⟨(.tmp rfl), trivial⟩) ?_
       refine WL.op rfl (.pickT (.tmp rfl) hb19 (.tmp rfl)) ?_
       refine WL.mv rfl rfl ?_
       rcases bcases (valid) with hb22 | hb22
       ·have hp23 := hb22
        rw [if_pos hp23] at hm
        refine WL.run rfl rfl rfl rfl hb22 rfl rfl (Op1.fieldAddr Tryd.underlying24 rfl (fun w => ⟨0, Tryd.sizeOf22 w⟩) fapi_Cite_1 (.tmp rfl)) ?_
        refine WL.run rfl rfl rfl rfl hb22 rfl rfl (Op1.load ty22 (.tmp rfl)) ?_
        refine WL.run rfl rfl rfl rfl hb22 rfl rfl (Op1.fieldAddr Tryd.underlying24 rfl (fun w => ⟨0, Tryd.sizeOf22 w⟩) fapi_Cite_1 (.tmp rfl)) ?_
        refine WL.run rfl rfl rfl rfl hb22 rfl rfl (Op1.load ty22 (.tmp rfl)) ?_
        refine WL.run rfl rfl rfl rfl hb22 rfl rfl (Op1.lenL Tryd.underlying22 (.tmp rfl)) ?_
        obtain ⟨v2, hv24, hm⟩ := bind_some hm
        refine WL.run rfl rfl rfl rfl hb22 rfl rfl (Op1.subC hv24 (.tmp rfl) .i64) ?_
        obtain ⟨v3, hv25, hm⟩ := bind_some hm
        refine WL.run rfl rfl rfl rfl hb22 rfl rfl (Op1.idx hv25 Tryd.underlying22 Tryd.sizeOf50 (.tmp rfl) (.tmp rfl)) ?_
        refine WL.run rfl rfl rfl rfl hb22 rfl rfl (Op1.fieldAddr Tryd.underlying50 rfl (fun w => ⟨0, Tryd.sizeOf3 w⟩) fapi_Step_0 (.tmp rfl)) ?_
        refine WL.run rfl rfl rfl rfl hb22 rfl rfl (Op1.load ty3 (.tmp rfl)) ?_
        refine WL.run rfl rfl rfl rfl hb22 rfl rfl (Op1.neI (.tmp rfl) .i64) ?_
        refine WL.op rfl (.pickT (.tmp rfl) hb22 (.tmp rfl)) ?_
        refine WL.gv rfl rfl ?_
        refine WL.ns ?_
        cases hm
        exact W.ret1 () rfl (.tmp rfl) trivial
       ·have hp23 := ne_of_false hb22
        rw [if_neg hp23] at hm
        iterate 10 refine WL.pass rfl rfl rfl rfl hb22 rfl rfl ?_
        refine WL.op rfl (.pickF (.tmp rfl) hb22 .bool) ?_
        refine WL.gv rfl rfl ?_
        refine WL.ns ?_
        cases hm
        exact W.ret1 () rfl (.tmp rfl) trivial
      ·have hp20 := ne_of_false hb19
       rw [if_neg hp20] at hm
       iterate 3 refine WL.pass rfl rfl rfl rfl hb19 rfl rfl ?_
       refine WL.op rfl (.pickF (.tmp rfl) hb19 .bool) ?_
       refine WL.mv rfl rfl ?_
       iterate 10 refine WL.pass rfl rfl rfl rfl rfl rfl rfl ?_
       refine WL.op rfl (.pickF (.tmp rfl) rfl .bool) ?_
       refine WL.gv rfl rfl ?_
       refine WL.ns ?_
       cases hm
       exact W.ret1 () rfl (.tmp rfl) trivial
     ·have hp17 := of_decide_eq_false hc16
      rw [if_neg hp17] at hm
      obtain ⟨s26, hs27, hk28⟩ := bind_some hm
      clear hm
      refine W.join (fun s : Bool => s = s26) (fun s => [(46, (tB.is s)), (1, (tapi_Cite.ptr c))]) (fun s => []) ?_ ?_
      ·rintro v4 hj34
       try dsimp only at hj34
       subst hj34
       have hm := hk28
       clear hk28
       try dsimp only at hm
       change W _ _ _ _ _ _ _ [(46, (tB.is v4)), (1, (tapi_Cite.ptr c))] []
       refine W.cond (.tmp rfl) (fun hc31 => ?_) (fun hc31 => ?_)
       ·have hp32 := hc31
        rw [if_pos hp32] at hm
        refine W.sr ?_
        refine WL.op rfl (.fieldAddr Tryd.underlying24 rfl (fun w => ⟨0, Tryd.sizeOf22 w⟩) fapi_Cite_1 (.tmp rfl)) ?_
        refine WL.op rfl (.load ty22 (.tmp rfl)) ?_
        obtain ⟨near, hv33, hm⟩ := bind_some hm
        refine WL.op rfl (.call Tryd.call36 (citation_near_spec _ _ _ hv33) ⟨(.tmp rfl), trivial⟩) ?_
        refine WL.gv rfl rfl ?_
        refine WL.ns ?_
        cases hm
        exact W.ret1 () rfl (.tmp rfl) trivial
       ·have hp32 := ne_of_false hc31
        rw [if_neg hp32] at hm
        refine W.skip ?_
        refine WN.block ?_
        refine WN.seq ?_
        refine W.sr ?_
        refine WL.op rfl (.assign .bool) ?_
        refine WL.ns ?_
        cases hm
        exact W.ret1 () rfl (.tmp rfl) trivial
      ·have hm := hs27
       clear hs27
       refine W.sr ?_
       refine WL.op rfl (.eqI (.tmp rfl) .i64) ?_
       refine WL.gv rfl rfl ?_
       refine WL.ns ?_
       refine W.cond (.tmp rfl) (fun hc29 => ?_) (fun hc29 => ?_)
       ·have hp30 := of_decide_eq_true hc29
        rw [if_pos hp30] at hm
        refine W.skip ?_
        exact WN.meet (decide (c.Kind = (2 : Int))) (Option.some.inj hm) ⟨Ent.q rfl, Ent.q rfl, trivial⟩ trivial
       ·have hp30 := of_decide_eq_false hc29
        rw [if_neg hp30] at hm
        refine W.region ?_
        refine WL.op rfl (.eqI (.tmp rfl) .i64) ?_
        refine WL.gv rfl rfl ?_
        refine WL.nil ?_
        exact WN.meet (decide (c.Kind = (3 : Int))) (Option.some.inj hm) ⟨Ent.q rfl, Ent.q rfl, trivial⟩ trivial
   ·have hm := hs9
    clear hs9
    refine W.sr ?_
    refine WL.op rfl (.eqI (.tmp rfl) .i64) ?_
    refine WL.gv rfl rfl ?_
    refine WL.ns ?_
    refine W.cond (.tmp rfl) (fun hc11 => ?_) (fun hc11 => ?_)
    ·have hp12 := of_decide_eq_true hc11
     rw [if_pos hp12] at hm
     refine W.skip ?_
     exact WN.meet (decide (c.Kind = (0 : Int))) (Option.some.inj hm) ⟨Ent.q rfl, Ent.q rfl, Ent.q rfl, trivial⟩ trivial
    ·have hp12 := of_decide_eq_false hc11
     rw [if_neg hp12] at hm
     refine W.region ?_
     refine WL.op rfl (.eqI (.tmp rfl) .i64) ?_
     refine WL.gv rfl rfl ?_
     refine WL.nil ?_
     exact WN.meet (decide (c.Kind = (4 : Int))) (Option.some.inj hm) ⟨Ent.q rfl, Ent.q rfl, Ent.q rfl, trivial⟩ trivial
 ·have hm := hs2
  clear hs2
  refine W.region ?_
  refine WL.op rfl (.fieldAddr Tryd.underlying24 rfl (fun w => ⟨0, Tryd.sizeOf22 w⟩) fapi_Cite_1 (.tmp rfl)) ?_
  refine WL.op rfl (.load ty22 (.tmp rfl)) ?_
  refine WL.op rfl (.lenL Tryd.underlying22 (.tmp rfl)) ?_
  refine WL.op rfl (.gtI (.tmp rfl) .i64) ?_
  refine WL.mv rfl rfl ?_
  rcases bcases (decide ((9 : Int) < (c.Path.length : Int))) with hb4 | hb4
  ·have hp5 := of_decide_eq_true hb4
   rw [if_pos hp5] at hm
   iterate 7 refine WL.pass rfl rfl rfl rfl hb4 rfl rfl ?_
   refine WL.op rfl (.pickT (.tmp rfl) hb4 .bool) ?_
   refine WL.nil ?_
   exact WN.meet true (Option.some.inj hm) ⟨Ent.q rfl, Ent.q rfl, trivial⟩ trivial
  ·have hp5 := of_decide_eq_false hb4
   rw [if_neg hp5] at hm
   refine WL.run rfl rfl rfl rfl hb4 rfl rfl (Op1.fieldAddr Tryd.underlying24 rfl (fun w => ⟨0, Tryd.sizeOf9 w⟩) fapi_Cite_2 (.tmp rfl)) ?_
   refine WL.run rfl rfl rfl rfl hb4 rfl rfl (Op1.load ty9 (.tmp rfl)) ?_
   refine WL.run rfl rfl rfl rfl hb4 rfl rfl (Op1.neS (.tmp rfl) (.str rfl (by decide))) ?_
   refine WL.run rfl rfl rfl rfl hb4 rfl rfl (Op1.fieldAddr Tryd.underlying24 rfl (fun w => ⟨0, Tryd.sizeOf3 w⟩) fapi_Cite_0 (.tmp rfl)) ?_
   refine WL.run rfl rfl rfl rfl hb4 rfl rfl (Op1.load ty3 (.tmp rfl)) ?_
   refine WL.run rfl rfl rfl rfl hb4 rfl rfl (Op1.eqI (.tmp rfl) .i64) ?_
   refine WL.run rfl rfl rfl rfl hb4 rfl rfl (Op1.neB Tryd.underlying4 (.tmp rfl) (.tmp rfl)) ?_
   refine WL.op rfl (.pickF (.tmp rfl) hb4 (.tmp rfl)) ?_
   refine WL.nil ?_
   exact WN.meet ((c.To != ([] : Str)) != (decide (c.Kind = (1 : Int)))) (Option.some.inj hm) ⟨Ent.q rfl, Ent.q rfl, trivial⟩ trivial
theorem citation_longest_spec (n : Nat) (l : List Str) (from0_ : Int) (r : api_Cite × Bool) (hm : M.citation_longest n l from0_ = some r) : FSpec Tryd.prog 39 [((tL tS).is l), ((tI .i64).is from0_)] (Asn.tuple2 (tapi_Cite.is r.1) (tB.is r.2)) := by
 unfold M.citation_longest at hm
 refine FSpec.of Tryd.func39 rfl rfl rfl (fun g0 => ?_)
 refine W.sr ?_
 refine WL.opR rfl (OpR.alloc 4 ze24) (fun b => ?_)
 refine WL.op rfl (.assign .bool) ?_
 refine WL.nr ?_
 refine WL.opR rfl (OpR.alloc 6 ze24) (fun b1 => ?_)
 refine WL.ns ?_
 refine W.seq ?_
 refine W.sr ?_
 obtain ⟨forms, hv1, hm⟩ := bind_some hm
 refine WL.op rfl (.call Tryd.call60 (citation_forms_spec _ _ hv1) trivial) ?_
 refine WL.op rfl (.lenL Tryd.underlying74 (.tmp rfl)) ?_
 refine WL.op rfl (.move .i64) ?_
 refine WL.ns ?_
 refine W.block ?_
 obtain ⟨s2, hs3, hk4⟩ := bind_some hm
 clear hm
 refine W.loop (fun m (s : Int × List (citation_reader → Option (api_Cite × citation_reader)) × List (citation_reader → Option (api_Cite × citation_reader)) × api_Cite) => m = s.2.2.1.length ∧ forms = s.2.1 ++ s.2.2.1 ∧ s.1 = (s.2.1.length : Int) ∧ M.citation_longest_loop1 n l from0_ s.2.2.1 s.2.2.2 = some s2) (fun s => [(13, ((tI .i64).is s.1)), (0, ((tL tS).is l)), (1, ((tI .i64).is from0_)), (4, (Bp b 0)), (6, (Bp b1 0)), (11, ((tL (tFnR Tryd.prog tcitation_reader 79 (fun y : api_Cite => (tapi_Cite.is y)))).is forms)), (12, ((tI .i64).is (forms.length : Int)))]) (fun s => [(6, (Bx 5 true 24 (tapi_Cite.is s.2.2.2) b1)), (4, (Bx 5 true 24 (tapi_Cite.is zapi_Cite) b))]) forms.length ((0 : Int), [], forms, zapi_Cite) ⟨rfl, rfl, rfl, hs3⟩ ⟨Ent.q rfl, Ent.q rfl, Ent.q rfl, Ent.q rfl, Ent.q rfl, Ent.q rfl, Ent.q rfl, trivial⟩ ⟨rfl, rfl, ⟨rfl, rfl, trivial⟩⟩ ?_
 rintro m ⟨i, pre, rest1, best⟩ ⟨hn8, hxs5, hi6, hm⟩
 try dsimp only at hn8 hxs5 hi6 hm
 change W _ _ _ _ _ _ _ [(13, ((tI .i64).is i)), (0, ((tL tS).is l)), (1, ((tI .i64).is from0_)), (4, (Bp b 0)), (6, (Bp b1 0)), (11, ((tL (tFnR Tryd.prog tcitation_reader 79 (fun y : api_Cite => (tapi_Cite.is y)))).is forms)), (12, ((tI .i64).is (forms.length : Int)))] [(6, (Bx 5 true 24 (tapi_Cite.is best) b1)), (4, (Bx 5 true 24 (tapi_Cite.is zapi_Cite) b))]
 refine W.lenL (s := 11) (.tmp rfl) fun hlen7 => ?_
 refine W.sr ?_
 refine WL.op rfl (.ltI (.tmp rfl) (.tmp rfl)) ?_
 refine WL.ns ?_
 refine W.seq ?_
 refine W.cond (.tmp rfl) (fun hc10 => ?_) (fun hc10 => ?_)
 ·have hp11 := of_decide_eq_true hc10
  obtain ⟨e, es, hrest13⟩ := range_more hxs5 hi6 hp11
  subst hrest13
  rw [M.citation_longest_loop1.eq_2] at hm
  refine W.skip ?_
  refine WN.seq ?_
  refine W.seq ?_
  refine W.block ?_
  refine W.sr ?_
  refine WL.op rfl (.idxPre hxs5 hi6 Tryd.underlying74 Tryd.sizeOf76 (.tmp rfl) (.tmp rfl)) ?_
  refine WL.op rfl (.load ty76 (.tmp rfl)) ?_
  refine WL.gv rfl rfl ?_
  refine WL.nr ?_
  refine WL.mv rfl rfl ?_
  refine WL.mv rfl rfl ?_
  refine WL.op rfl (.build (s := tcitation_reader) (x := (⟨l, from0_, false⟩ : citation_reader)) zcitation_reader_f rfl Tryd.underlying79 (zcitation_reader_sz _ Tryd.underlying79) ze79 ⟨_, (tL tS), l, _, _, rfl, Tryd.sizeOf28, (.tmp rfl), scitation_reader_0, ⟨_, (tI .i64), from0_, _, _, rfl, Tryd.sizeOf3, (.tmp rfl), scitation_reader_1, rfl⟩⟩) ?_
  refine WL.opR rfl (OpR.boxB 20 (Cellable.is tcitation_reader (⟨l, from0_, false⟩ : citation_reader)) (.tmp rfl)) (fun b2 => ?_)
  refine WL.gv rfl rfl ?_
  refine WL.nr ?_
  refine WL.mv rfl rfl ?_
  refine WL.mv rfl rfl ?_
  obtain ⟨⟨v, w⟩, hv14, hm⟩ := bind_some hm
  dsimp only at hm
  refine WL.opR rfl (OpR.callFnR 20 hv14 (.tmp rfl) rfl (.tmp rfl)) (fun _ => ?_)
  refine WL.opR rfl (OpR.alloc 10 ze24) (fun b3 => ?_)
  refine WL.opU (OpR.storeB (b := b3) 10 Tryd.sizeOf24 (Cellable.is tapi_Cite v) rfl (.tmp rfl) (.tmp rfl)) (fun _ => ?_)
  refine WL.ns ?_
  refine W.seq ?_
  refine W.weakR (res' := [(6, (Bx 5 true 24 (tapi_Cite.is best) b1)), (4, (Bx 5 true 24 (tapi_Cite.is zapi_Cite) b)), (20, (Bx 3 true 79 (tcitation_reader.is w) b2)), (10, (Bx 5 true 24 (tapi_Cite.is v) b3))]) ⟨rfl, rfl, ⟨rfl, rfl, ⟨rfl, rfl, ⟨rfl, rfl, trivial⟩⟩⟩⟩ ?_
  refine W.drawM [.c ((tI .i64).is from0_), .c (Bp b2 0), .c (Bp b2 0), .c (Bp b2 1), .c ((tI .i64).is w.at_), .c (Bp b3 3), .c Asn.any, .c (Bp b3 4), .c Asn.any] [([], [1]), ([], [9]), ([1], []), ([2], []), ([3], []), ([], [10]), ([0, 5], []), ([], [10]), ([4, 7], [])] [6, 8] [[], [], [], [], [], [], [], [], []] (fun m cv => match m with | 0 => [(6, (Bx 5 true 24 (tapi_Cite.is best) b1)), (4, (Bx 5 true 24 (tapi_Cite.is zapi_Cite) b)), (20, (Bx 3 true 79 (tcitation_reader.is w) b2)), (10, (Bx 5 true 24 (tapi_Cite.is v) b3))] | 1 => [(10, (Bx 5 true 24 (tapi_Cite.is ({ v with From := from0_ } : api_Cite)) b3)), (6, (Bx 5 true 24 (tapi_Cite.is best) b1)), (4, (Bx 5 true 24 (tapi_Cite.is zapi_Cite) b)), (20, (Bx 3 true 79 (tcitation_reader.is w) b2))] | _ => [(10, (Bx 5 true 24 (tapi_Cite.is ({ ({ v with From := from0_ } : api_Cite) with At := w.at_ } : api_Cite)) b3)), (6, (Bx 5 true 24 (tapi_Cite.is best) b1)), (4, (Bx 5 true 24 (tapi_Cite.is zapi_Cite) b)), (20, (Bx 3 true 79 (tcitation_reader.is w) b2))]) (fun _ => none) Tryd.mixed rfl rfl rfl rfl rfl ⟨fun _ _ _ _ => rfl, ⟨fun _ _ _ _ => rfl, ⟨fun _ _ _ _ => rfl, ⟨fun _ _ _ _ => rfl, ⟨fun _ _ _ _ => rfl, ⟨fun _ _ _ _ => rfl, ⟨fun _ _ _ _ => rfl, ⟨fun _ _ _ _ => rfl, ⟨fun _ _ _ _ => rfl, trivial⟩⟩⟩⟩⟩⟩⟩⟩⟩ rfl ⟨mo fun cv => Op1.move (.tmp rfl), ⟨mo fun cv => Op1.move (.tmp rfl), ⟨mo fun cv => Op1.nilCheckB (.tmp rfl), ⟨mo fun cv => Op1.fieldAddrB (o := 0) Tryd.underlying79 rfl (fun w => ⟨0, Tryd.sizeOf3 w⟩) (.tmp rfl) rfl, ⟨.inr ⟨fun cv => [(20, (Bx 3 true 79 (tcitation_reader.is w) b2))], (AllUpTo.at ⟨⟨(fun _ _ => ⟨rfl, rfl, trivial⟩), (fun _ _ => ⟨rfl, rfl, trivial⟩)⟩, (fun hw => absurd hw (by decide))⟩), fun cv => Op1.loadBF 20 rfl ty3 fcitation_reader_1 rfl (.tmp rfl)⟩, ⟨mo fun cv => Op1.fieldAddrB (o := 0) Tryd.underlying24 rfl (fun w => ⟨0, Tryd.sizeOf3 w⟩) (.tmp rfl) rfl, ⟨.inl rfl, ⟨mo fun cv => Op1.fieldAddrB (o := 0) Tryd.underlying24 rfl (fun w => ⟨0, Tryd.sizeOf3 w⟩) (.tmp rfl) rfl, ⟨.inl rfl, trivial⟩⟩⟩⟩⟩⟩⟩⟩⟩ ⟨⟨_, _, _, [10], (fun cv => [(10, (Bx 5 true 24 (tapi_Cite.is ({ v with From := from0_ } : api_Cite)) b3))]), rfl, rfl, rfl, rfl, fun _ => rfl, fun _ _ => rfl, fun cv => OpR.viaU (OpR.storeBF (b := b3) 10 rfl ty3 sapi_Cite_3 rfl (by decide) (.tmp rfl) (.tmp rfl))⟩, ⟨⟨_, _, _, [10], (fun cv => [(10, (Bx 5 true 24 (tapi_Cite.is ({ ({ v with From := from0_ } : api_Cite) with At := w.at_ } : api_Cite)) b3))]), rfl, rfl, rfl, rfl, fun _ => rfl, fun _ _ => rfl, fun cv => OpR.viaU (OpR.storeBF (b := b3) 10 rfl ty3 sapi_Cite_4 rfl (by decide) (.tmp rfl) (.tmp rfl))⟩, trivial⟩⟩ (fun cv => ?_)
  refine WN.seq ?_
  refine W.sr ?_
  refine WL.op rfl (.loadB 10 Tryd.isAgg24 Tryd.sizeOf24 rfl (.tmp rfl)) ?_
  obtain ⟨valid, hv15, hm⟩ := bind_some hm
  refine WL.op rfl (.call Tryd.call15 (citation_Valid_spec _ _ _ hv15) ⟨(.tmp rfl), trivial⟩) ?_
  refine WL.mv rfl rfl ?_
  rcases bcases (valid) with hb16 | hb16
  ·have hp17 := hb16
   rw [if_pos hp17] at hm
   refine WL.run rfl rfl rfl rfl hb16 rfl rfl (Op1.fieldAddrB (o := 0) Tryd.underlying24 rfl (fun w => ⟨0, Tryd.sizeOf3 w⟩) (.tmp rfl) rfl) ?_
   refine WL.run rfl rfl rfl rfl hb16 rfl rfl (Op1.loadBF 10 rfl ty3 fapi_Cite_4 rfl (.tmp rfl)) ?_
   refine WL.run rfl rfl rfl rfl hb16 rfl rfl (Op1.fieldAddrB (o := 0) Tryd.underlying24 rfl (fun w => ⟨0, Tryd.sizeOf3 w⟩) (.tmp rfl) rfl) ?_
   refine WL.run rfl rfl rfl rfl hb16 rfl rfl (Op1.loadBF 6 rfl ty3 fapi_Cite_4 rfl (.tmp rfl)) ?_
   refine WL.run rfl rfl rfl rfl hb16 rfl rfl (Op1.gtI (.tmp rfl) (.tmp rfl)) ?_
   refine WL.op rfl (.pickT (.tmp rfl) hb16 (.tmp rfl)) ?_
   refine WL.ns ?_
   refine W.cond (.tmp rfl) (fun hc18 => ?_) (fun hc18 => ?_)
   ·have hp19 := of_decide_eq_true hc18
    rw [if_pos hp19] at hm
    refine W.region ?_
    refine WL.op rfl (.loadB 10 Tryd.isAgg24 Tryd.sizeOf24 rfl (.tmp rfl)) ?_
    refine WL.opU (OpR.storeB (b := b1) 6 Tryd.sizeOf24 (Cellable.is tapi_Cite ({ ({ v with From := from0_ } : api_Cite) with At := w.at_ } : api_Cite)) rfl (.tmp rfl) (.tmp rfl)) (fun _ => ?_)
    refine WL.nil ?_
    refine WN.block ?_
    refine WN.seq ?_
    refine W.region ?_
    refine WL.op rfl (.addI (.tmp rfl) .i64 (range_inR hi6 hp11 hlen7)) ?_
    refine WL.mv rfl rfl ?_
    refine WL.nil ?_
    exact WN.again es.length (i + 1, pre ++ [e], es, ({ ({ v with From := from0_ } : api_Cite) with At := w.at_ } : api_Cite)) (range_lt hn8) ⟨rfl, range_step hxs5, range_idx hi6, hm⟩ ⟨Ent.q rfl, Ent.q rfl, Ent.q rfl, Ent.q rfl, Ent.q rfl, Ent.q rfl, Ent.q rfl, trivial⟩ ⟨rfl, rfl, ⟨rfl, rfl, trivial⟩⟩
   ·have hp19 := of_decide_eq_false hc18
    rw [if_neg hp19] at hm
    refine W.skip ?_
    refine WN.block ?_
    refine WN.seq ?_
    refine W.region ?_
    refine WL.op rfl (.addI (.tmp rfl) .i64 (range_inR hi6 hp11 hlen7)) ?_
    refine WL.mv rfl rfl ?_
    refine WL.nil ?_
    exact WN.again es.length (i + 1, pre ++ [e], es, best) (range_lt hn8) ⟨rfl, range_step hxs5, range_idx hi6, hm⟩ ⟨Ent.q rfl, Ent.q rfl, Ent.q rfl, Ent.q rfl, Ent.q rfl, Ent.q rfl, Ent.q rfl, trivial⟩ ⟨rfl, rfl, ⟨rfl, rfl, trivial⟩⟩
  ·have hp17 := ne_of_false hb16
   rw [if_neg hp17] at hm
   iterate 5 refine WL.pass rfl rfl rfl rfl hb16 rfl rfl ?_
   refine WL.op rfl (.pickF (.tmp rfl) hb16 .bool) ?_
   refine WL.ns ?_
   refine W.condF (.tmp rfl) ?_
   refine W.skip ?_
   refine WN.block ?_
   refine WN.seq ?_
   refine W.region ?_
   refine WL.op rfl (.addI (.tmp rfl) .i64 (range_inR hi6 hp11 hlen7)) ?_
   refine WL.mv rfl rfl ?_
   refine WL.nil ?_
   exact WN.again es.length (i + 1, pre ++ [e], es, best) (range_lt hn8) ⟨rfl, range_step hxs5, range_idx hi6, hm⟩ ⟨Ent.q rfl, Ent.q rfl, Ent.q rfl, Ent.q rfl, Ent.q rfl, Ent.q rfl, Ent.q rfl, trivial⟩ ⟨rfl, rfl, ⟨rfl, rfl, trivial⟩⟩
 ·have hrest13 := range_end hxs5 hi6 (of_decide_eq_false hc10)
  subst hrest13
  rw [M.citation_longest_loop1.eq_1] at hm
  refine W.exit rfl ?_
  have hr20 := Option.some.inj hm
  clear hm
  subst hr20
  have hm := hk4
  try dsimp only at hm
  refine WN.seq ?_
  refine W.seq ?_
  refine W.weakR (res' := [(6, (Bx 5 true 24 (tapi_Cite.is best) b1)), (4, (Bx 5 true 24 (tapi_Cite.is zapi_Cite) b))]) ⟨rfl, rfl, ⟨rfl, rfl, trivial⟩⟩ ?_
  refine W.drawM [.c (tapi_Cite.is best), .c (Bp b1 4), .c ((tI .i64).is best.At), .c (tB.is (decide ((0 : Int) < best.At))), .c Asn.any, .c (tB.is (decide ((0 : Int) < best.At)))] [([], [6]), ([], [6]), ([1], []), ([2], []), ([0], [4]), ([3], [])] [4] [[], [], [], [], [], []] (fun m cv1 => match m with | 0 => [(6, (Bx 5 true 24 (tapi_Cite.is best) b1)), (4, (Bx 5 true 24 (tapi_Cite.is zapi_Cite) b))] | _ => [(4, (Bx 5 true 24 (tapi_Cite.is best) b)), (6, (Bx 5 true 24 (tapi_Cite.is best) b1))]) (fun _ => none) Tryd.mixed rfl rfl rfl rfl rfl ⟨fun _ _ _ _ => rfl, ⟨fun _ _ _ _ => rfl, ⟨fun _ _ _ _ => rfl, ⟨fun _ _ _ _ => rfl, ⟨fun _ _ _ _ => rfl, ⟨fun _ _ _ _ => rfl, trivial⟩⟩⟩⟩⟩⟩ rfl ⟨.inr ⟨fun cv1 => [(6, (Bx 5 true 24 (tapi_Cite.is best) b1))], (AllUpTo.at ⟨(fun _ _ => ⟨rfl, rfl, trivial⟩), (fun hw => absurd hw (by decide))⟩), fun cv1 => Op1.loadB 6 Tryd.isAgg24 Tryd.sizeOf24 rfl (.tmp rfl)⟩, ⟨mo fun cv1 => Op1.fieldAddrB (o := 0) Tryd.underlying24 rfl (fun w => ⟨0, Tryd.sizeOf3 w⟩) (.tmp rfl) rfl, ⟨.inr ⟨fun cv1 => [(6, (Bx 5 true 24 (tapi_Cite.is best) b1))], (AllUpTo.at ⟨(fun _ _ => ⟨rfl, rfl, trivial⟩), (fun _ _ => ⟨rfl, rfl, trivial⟩)⟩), fun cv1 => Op1.loadBF 6 rfl ty3 fapi_Cite_4 rfl (.tmp rfl)⟩, ⟨mo fun cv1 => Op1.gtI (.tmp rfl) .i64, ⟨.inl rfl, ⟨mo fun cv1 => Op1.assign (.tmp rfl), trivial⟩⟩⟩⟩⟩⟩ ⟨⟨_, _, _, [4], (fun cv1 => [(4, (Bx 5 true 24 (tapi_Cite.is best) b))]), rfl, rfl, rfl, rfl, fun _ => rfl, fun _ _ => rfl, fun cv1 => OpR.viaU (OpR.storeB (b := b) 4 Tryd.sizeOf24 (Cellable.is tapi_Cite best) rfl (.tmp rfl) (.tmp rfl))⟩, trivial⟩ (fun cv1 => ?_)
  refine WN.seq ?_
  cases hm
  exact W.retQ2 () rfl rfl (ResAt.cell 4 Tryd.isAgg24 Tryd.sizeOf24 rfl (.tmp rfl)) (ResAt.tmp (.tmp rfl)) trivial
theorem citation_Scan_spec (n : Nat) (l : List Str) (r : (List api_Cite)) (hm : M.citation_Scan n l = some r) : FSpec Tryd.prog 19 [((tL tS).is l)] ((tL tapi_Cite).is r) := by
 unfold M.citation_Scan at hm
 refine FSpec.of Tryd.func19 rfl rfl rfl (fun g0 => ?_)
 refine W.sr ?_
 refine WL.op rfl (.assign (.nil (t := tapi_Cite))) ?_
 refine WL.nr ?_
 refine WL.addNil (t := tapi_Cite) (E := 24) 3 ?_
 refine WL.op rfl (.assign (Opd.nilO (t := tapi_Cite))) ?_
 refine WL.ns ?_
 refine W.seq ?_
 refine W.sr ?_
 refine WL.op rfl (.assign .i64) ?_
 refine WL.ns ?_
 refine W.block ?_
 obtain ⟨s1, hs2, hk3⟩ := bind_some hm
 clear hm
 refine W.loop (fun m (s : ((List api_Cite) × Int) × Tok) => M.citation_Scan_loop1 l m s.1.1 s.1.2 = some s1) (fun s => [(3, (tO tapi_Cite s.2 s.1.1)), (4, ((tI .i64).is s.1.2)), (0, ((tL tS).is l))]) (fun s => [(3, Dec.Own tapi_Cite 24 s.2 s.1.1.length)]) _ ((([] : List api_Cite), (0 : Int)), (none : Tok)) hs2 ⟨Ent.q rfl, Ent.q rfl, Ent.q rfl, trivial⟩ ⟨rfl, rfl, trivial⟩ ?_
 rintro n4 ⟨⟨out, at0_⟩, k⟩ hm
 try dsimp only at hm
 change W _ _ _ _ _ _ _ [(3, (tO tapi_Cite k out)), (4, ((tI .i64).is at0_)), (0, ((tL tS).is l))] [(3, Dec.Own tapi_Cite 24 k out.length)]
 cases n4 with
 | zero => rw [M.citation_Scan_loop1.eq_1] at hm; cases hm
 | succ n4 =>
  rw [M.citation_Scan_loop1.eq_2] at hm
  refine W.seq ?_
  refine W.sr ?_
  refine WL.mv rfl rfl ?_
  refine WL.mv rfl rfl ?_
  refine WL.op rfl (.lenL Tryd.underlying28 (.tmp rfl)) ?_
  refine WL.op rfl (.ltI (.tmp rfl) (.tmp rfl)) ?_
  refine WL.ns ?_
  refine W.cond (.tmp rfl) (fun hc5 => ?_) (fun hc5 => ?_)
  ·have hp6 := of_decide_eq_true hc5
   rw [if_pos hp6] at hm
   refine W.skip ?_
   refine WN.seq ?_
   refine W.block ?_
   refine W.sr ?_
   refine WL.mv rfl rfl ?_
   refine WL.mv rfl rfl ?_
   obtain ⟨longes, hv7, hm⟩ := bind_some hm
   refine WL.op rfl (.call Tryd.call39 (citation_longest_spec _ _ _ _ hv7) ⟨(.tmp rfl), (.tmp rfl), trivial⟩) ?_
   refine WL.mv rfl rfl ?_
   refine WL.op rfl (.extract0 (.tmp rfl)) ?_
   refine WL.op rfl (.extract1 (.tmp rfl)) ?_
   refine WL.opR rfl (OpR.alloc 5 ze24) (fun b => ?_)
   refine WL.opU (OpR.storeB (b := b) 5 Tryd.sizeOf24 (Cellable.is tapi_Cite longes.1) rfl (.tmp rfl) (.tmp rfl)) (fun _ => ?_)
   refine WL.sealed (t := tapi_Cite) (u := longes.1) 5 5 rfl rfl ?_
   refine WL.gv rfl rfl ?_
   refine WL.ns ?_
   refine W.seq ?_
   refine W.sr ?_
   refine WL.mv rfl rfl ?_
   refine WL.op rfl (.notB (.tmp rfl)) ?_
   refine WL.ns ?_
   refine W.cond (.tmp rfl) (fun hc8 => ?_) (fun hc8 => ?_)
   ·have hp9 := not_pos hc8
    rw [if_pos hp9] at hm
    refine W.sr ?_
    refine WL.mv rfl rfl ?_
    refine WL.lenL (s := 0) (.tmp rfl) fun hl10 => ?_
    refine WL.op rfl (.addI1 (.tmp rfl) .i64 hp6 hl10) ?_
    refine WL.gv rfl rfl ?_
    refine WL.ns ?_
    refine W.exit rfl ?_
    exact WN.again n4 ((out, at0_ + 1), k) (Nat.lt_succ_self n4) hm ⟨Ent.q rfl, Ent.q rfl, Ent.q rfl, trivial⟩ ⟨rfl, rfl, trivial⟩
   ·have hp9 := not_neg hc8
    rw [if_neg hp9] at hm
    refine W.skip ?_
    refine WN.seq ?_
    refine W.sr ?_
    refine WL.mv rfl rfl ?_
    refine WL.op rfl (.load ty24 (.tmp rfl)) ?_
    refine WL.op rfl (.buildSlice (n := 1) (ys := [(0, longes.1)]) (z := zapi_Cite) (xs := [longes.1]) Tryd.underlying33 el24 ze24 ⟨rfl, (.tmp rfl), trivial⟩ (by simp) (by decide) rfl) ?_
    obtain ⟨out1, hv11, hm⟩ := bind_some hm
    refine WL.opR rfl (OpR.appC (key := 3) hv11 Tryd.underlying33 el24 (.tmp rfl) (.tmp rfl) rfl) (fun k1 => ?_)
    refine WL.gv rfl rfl ?_
    refine WL.nr1 ?_
    refine WL.op rfl (.fieldAddr Tryd.underlying24 rfl (fun w => ⟨0, Tryd.sizeOf3 w⟩) fapi_Cite_4 (.tmp rfl)) ?_
    refine WL.op rfl (.load ty3 (.tmp rfl)) ?_
    refine WL.gv rfl rfl ?_
    refine WL.nil ?_
    refine WN.block ?_
    exact WN.again n4 ((out1, longes.1.At), k1) (Nat.lt_succ_self n4) hm ⟨Ent.q rfl, Ent.q rfl, Ent.q rfl, trivial⟩ ⟨rfl, rfl, trivial⟩
  ·have hp6 := of_decide_eq_false hc5
   rw [if_neg hp6] at hm
   refine W.exit rfl ?_
   have hr12 := Option.some.inj hm
   clear hm
   subst hr12
   have hm := hk3
   try dsimp only at hm
   refine WN.seq ?_
   refine W.sr ?_
   refine WL.mv rfl rfl ?_
   refine WL.gv rfl rfl ?_
   refine WL.ns ?_
   cases hm
   exact W.ret1 () rfl (Opd.own (.tmp rfl)) trivial
theorem strings_Split_spec (s sep : Str) (r : List Str) (hm : splitM s sep = some r) : FSpecR Tryd.prog 41 [tS.is s, tS.is sep] [(700000, GlE 0)] (fun _ : Unit => (tL tS).is r) (fun _ => []) :=
 split_spec (fun s sep m w hs hm h1 => Tryd.strings_Split s sep m w hs hm h1) _ s sep r hm
theorem citation_told_spec (p : List api_Step) (r : (List Str)) (hm : M.citation_told p = some r) : FSpecR Tryd.prog 58 [((tL tapi_Step).is p)] [] (fun k : Tok => tO tS k r) (fun k => [(77777, Dec.Own tS 9 k r.length)]) := by
 unfold M.citation_told at hm
 refine FSpecR.of Tryd.func58 rfl rfl rfl (fun g0 => ?_)
 refine W.sr ?_
 refine WL.addNil (t := tS) (E := 9) 2 ?_
 refine WL.op rfl (.assign (Opd.nilO (t := tS))) ?_
 refine WL.nr ?_
 refine WL.addNil (t := tS) (E := 9) 3 ?_
 refine WL.op rfl (.assign (Opd.nilO (t := tS))) ?_
 refine WL.ns ?_
 refine W.seq ?_
 refine W.sr ?_
 refine WL.mv rfl rfl ?_
 refine WL.op rfl (.lenL Tryd.underlying22 (.tmp rfl)) ?_
 refine WL.op rfl (.move .i64) ?_
 refine WL.ns ?_
 refine W.block ?_
 obtain ⟨s1, hs2, hk3⟩ := bind_some hm
 clear hm
 refine W.loop (fun m (s : Int × List api_Step × List api_Step × (((List Str)) × Tok)) => m = s.2.2.1.length ∧ p = s.2.1 ++ s.2.2.1 ∧ s.1 = (s.2.1.length : Int) ∧ M.citation_told_loop1 s.2.2.1 s.2.2.2.1 = some s1) (fun s => [(8, ((tI .i64).is s.1)), (3, (tO tS s.2.2.2.2 s.2.2.2.1)), (6, ((tL tapi_Step).is p)), (7, ((tI .i64).is (p.length : Int)))]) (fun s => [(3, Dec.Own tS 9 s.2.2.2.2 s.2.2.2.1.length)]) p.length ((0 : Int), [], p, (([] : List Str), (none : Tok))) ⟨rfl, rfl, rfl, hs2⟩ ⟨Ent.q rfl, Ent.q rfl, Ent.q rfl, Ent.q rfl, trivial⟩ ⟨rfl, rfl, trivial⟩ ?_
 rintro m ⟨i, pre, rest1, ⟨out, k⟩⟩ ⟨hn7, hxs4, hi5, hm⟩
 try dsimp only at hn7 hxs4 hi5 hm
 change W _ _ _ _ _ _ _ [(8, ((tI .i64).is i)), (3, (tO tS k out)), (6, ((tL tapi_Step).is p)), (7, ((tI .i64).is (p.length : Int)))] [(3, Dec.Own tS 9 k out.length)]
 refine W.lenL (s := 6) (.tmp rfl) fun hlen6 => ?_
 refine W.sr ?_
 refine WL.op rfl (.ltI (.tmp rfl) (.tmp rfl)) ?_
 refine WL.ns ?_
 refine W.seq ?_
 refine W.cond (.tmp rfl) (fun hc9 => ?_) (fun hc9 => ?_)
 ·have hp10 := of_decide_eq_true hc9
  obtain ⟨e, es, hrest12⟩ := range_more hxs4 hi5 hp10
  subst hrest12
  rw [M.citation_told_loop1.eq_2] at hm
  refine W.skip ?_
  refine WN.seq ?_
  refine W.seq ?_
  refine W.block ?_
  refine W.sr ?_
  refine WL.op rfl (.idxPre hxs4 hi5 Tryd.underlying22 Tryd.sizeOf50 (.tmp rfl) (.tmp rfl)) ?_
  refine WL.op rfl (.load ty50 (.tmp rfl)) ?_
  refine WL.opR rfl (OpR.alloc 5 ze50) (fun b => ?_)
  refine WL.opU (OpR.storeB (b := b) 5 Tryd.sizeOf50 (Cellable.is tapi_Step e) rfl (.tmp rfl) (.tmp rfl)) (fun _ => ?_)
  refine WL.sealed (t := tapi_Step) (u := e) 5 5 rfl rfl ?_
  refine WL.ns ?_
  refine W.block ?_
  refine W.sr ?_
  refine WL.op rfl (.load ty50 (.tmp rfl)) ?_
  obtain ⟨book, hv13, hm⟩ := bind_some hm
  refine WL.op rfl (.call Tryd.call47 (citation_book_spec _ _ hv13) ⟨(.tmp rfl), trivial⟩) ?_
  refine WL.gv rfl rfl ?_
  refine WL.ns ?_
  refine W.cond (.tmp rfl) (fun hc14 => ?_) (fun hc14 => ?_)
  ·have hp15 := hc14
   rw [if_pos hp15] at hm
   refine W.region ?_
   refine WL.mv rfl rfl ?_
   refine WL.op rfl (.buildSlice (n := 1) (ys := [(0, ([98, 111, 111, 107] : Str))]) (z := ([] : Str)) (xs := [([98, 111, 111, 107] : Str)]) Tryd.underlying28 el9 ze9 ⟨rfl, (.str rfl (by decide)), trivial⟩ (by simp) (by decide) rfl) ?_
   obtain ⟨out1, hv16, hm⟩ := bind_some hm
   refine WL.opR rfl (OpR.appC (key := 3) hv16 Tryd.underlying28 el9 (.tmp rfl) (.tmp rfl) rfl) (fun k1 => ?_)
   refine WL.gv rfl rfl ?_
   refine WL.nil ?_
   refine WN.block ?_
   refine WN.block ?_
   refine WN.seq ?_
   refine W.region ?_
   refine WL.op rfl (.addI (.tmp rfl) .i64 (range_inR hi5 hp10 hlen6)) ?_
   refine WL.mv rfl rfl ?_
   refine WL.nil ?_
   exact WN.again es.length (i + 1, pre ++ [e], es, (out1, k1)) (range_lt hn7) ⟨rfl, range_step hxs4, range_idx hi5, hm⟩ ⟨Ent.q rfl, Ent.q rfl, Ent.q rfl, Ent.q rfl, trivial⟩ ⟨rfl, rfl, trivial⟩
  ·have hp15 := ne_of_false hc14
   rw [if_neg hp15] at hm
   refine W.sr ?_
   refine WL.op rfl (.fieldAddr Tryd.underlying50 rfl (fun w => ⟨0, Tryd.sizeOf9 w⟩) fapi_Step_1 (.tmp rfl)) ?_
   refine WL.op rfl (.load ty9 (.tmp rfl)) ?_
   refine WL.op rfl (.eqS (.tmp rfl) (.str rfl (by decide))) ?_
   refine WL.gv rfl rfl ?_
   refine WL.ns ?_
   refine W.cond (.tmp rfl) (fun hc17 => ?_) (fun hc17 => ?_)
   ·have hp18 := hc17
    rw [if_pos hp18] at hm
    obtain ⟨single, hv19, hm⟩ := bind_some hm
    obtain ⟨v, hv20, hm⟩ := bind_some hm
    obtain ⟨out2, hv21, hm⟩ := bind_some hm
    refine W.drawR [.c (tO tS k out), .c ((tL tS).is single), .c ((tI .i64).ptr e.Kind), .c ((tI .i64).is e.Kind), .c (tS.ptr v), .c (tS.is v), .c ((tL tS).is [v]), .f (fun k2 => (tO tS k2 out2)), .f (fun k2 => (tO tS k2 out2))] [([], [3]), ([], []), ([], [5]), ([2], []), ([1, 3], []), ([4], []), ([5], []), ([0, 6], []), ([7], [])] 7 [3] (fun k : Tok => tO tS k out2) (fun k : Tok => [(3, Dec.Own tS 9 k out2.length)]) (none : Tok) Tryd.mixed rfl rfl rfl (fun k2 => ⟨.inr (Op1.move (.tmp rfl)), .inr (Op1.call Tryd.call69 (citation_single_spec _ hv19) trivial), .inr (Op1.fieldAddr Tryd.underlying50 rfl (fun w => ⟨0, Tryd.sizeOf3 w⟩) fapi_Step_0 (.tmp rfl)), .inr (Op1.load ty3 (.tmp rfl)), .inr (Op1.idx hv20 Tryd.underlying28 Tryd.sizeOf9 (.tmp rfl) (.tmp rfl)), .inr (Op1.load ty9 (.tmp rfl)), .inr (Op1.buildSlice (n := 1) (ys := [(0, v)]) (z := ([] : Str)) (xs := [v]) Tryd.underlying28 el9 ze9 ⟨rfl, (.tmp rfl), trivial⟩ (by simp) (by decide) rfl), .inl rfl, .inr (Op1.assign (.tmp rfl)), trivial⟩) (.inl ⟨by decide, _, _, rfl, rfl, rfl, rfl, OpR.appC (key := 3) hv21 Tryd.underlying28 el9 (.tmp rfl) (.tmp rfl) rfl⟩) (fun k2 => ?_)
    refine WN.block ?_
    refine WN.block ?_
    refine WN.seq ?_
    refine W.region ?_
    refine WL.op rfl (.addI (.tmp rfl) .i64 (range_inR hi5 hp10 hlen6)) ?_
    refine WL.mv rfl rfl ?_
    refine WL.nil ?_
    exact WN.again es.length (i + 1, pre ++ [e], es, (out2, k2)) (range_lt hn7) ⟨rfl, range_step hxs4, range_idx hi5, hm⟩ ⟨Ent.q rfl, Ent.q rfl, Ent.q rfl, Ent.q rfl, trivial⟩ ⟨rfl, rfl, trivial⟩
   ·have hp18 := ne_of_false hc17
    rw [if_neg hp18] at hm
    obtain ⟨single1, hv22, hm⟩ := bind_some hm
    obtain ⟨v1, hv23, hm⟩ := bind_some hm
    obtain ⟨out3, hv24, hm⟩ := bind_some hm
    refine W.drawR [.c (tO tS k out), .c ((tL tS).is single1), .c ((tI .i64).ptr e.Kind), .c ((tI .i64).is e.Kind), .c (tS.ptr v1), .c (tS.is v1), .c (tS.ptr e.Label), .c (tS.is e.Label), .c ((tL tS).is [v1, e.Label]), .f (fun k3 => (tO tS k3 out3)), .f (fun k3 => (tO tS k3 out3))] [([], [3]), ([], []), ([], [5]), ([2], []), ([1, 3], []), ([4], []), ([], [5]), ([6], []), ([5, 7], []), ([0, 8], []), ([9], [])] 9 [3] (fun k : Tok => tO tS k out3) (fun k : Tok => [(3, Dec.Own tS 9 k out3.length)]) (none : Tok) Tryd.mixed rfl rfl rfl (fun k3 => ⟨.inr (Op1.move (.tmp rfl)), .inr (Op1.call Tryd.call69 (citation_single_spec _ hv22) trivial), .inr (Op1.fieldAddr Tryd.underlying50 rfl (fun w => ⟨0, Tryd.sizeOf3 w⟩) fapi_Step_0 (.tmp rfl)), .inr (Op1.load ty3 (.tmp rfl)), .inr (Op1.idx hv23 Tryd.underlying28 Tryd.sizeOf9 (.tmp rfl) (.tmp rfl)), .inr (Op1.load ty9 (.tmp rfl)), .inr (Op1.fieldAddr Tryd.underlying50 rfl (fun w => ⟨0, Tryd.sizeOf9 w⟩) fapi_Step_1 (.tmp rfl)), .inr (Op1.load ty9 (.tmp rfl)), .inr (Op1.buildSlice (n := 2) (ys := [(0, v1), (1, e.Label)]) (z := ([] : Str)) (xs := [v1, e.Label]) Tryd.underlying28 el9 ze9 ⟨rfl, (.tmp rfl), rfl, (.tmp rfl), trivial⟩ (by simp) (by decide) rfl), .inl rfl, .inr (Op1.assign (.tmp rfl)), trivial⟩) (.inl ⟨by decide, _, _, rfl, rfl, rfl, rfl, OpR.appC (key := 3) hv24 Tryd.underlying28 el9 (.tmp rfl) (.tmp rfl) rfl⟩) (fun k3 => ?_)
    refine WN.block ?_
    refine WN.block ?_
    refine WN.seq ?_
    refine W.region ?_
    refine WL.op rfl (.addI (.tmp rfl) .i64 (range_inR hi5 hp10 hlen6)) ?_
    refine WL.mv rfl rfl ?_
    refine WL.nil ?_
    exact WN.again es.length (i + 1, pre ++ [e], es, (out3, k3)) (range_lt hn7) ⟨rfl, range_step hxs4, range_idx hi5, hm⟩ ⟨Ent.q rfl, Ent.q rfl, Ent.q rfl, Ent.q rfl, trivial⟩ ⟨rfl, rfl, trivial⟩
 ·have hrest12 := range_end hxs4 hi5 (of_decide_eq_false hc9)
  subst hrest12
  rw [M.citation_told_loop1.eq_1] at hm
  refine W.exit rfl ?_
  have hr25 := Option.some.inj hm
  clear hm
  subst hr25
  have hm := hk3
  try dsimp only at hm
  refine WN.seq ?_
  refine W.sr ?_
  refine WL.mv rfl rfl ?_
  refine WL.gv rfl rfl ?_
  refine WL.ns ?_
  have hr := Option.some.inj hm
  clear hm
  subst hr
  refine W.weakR (res' := [(3, Dec.Own tS 9 k out.length)]) ⟨rfl, rfl, trivial⟩ ?_
  refine W.rekey (res' := [(77777, Dec.Own tS 9 k out.length)]) rfl ?_
  exact W.ret1 k rfl (.tmp rfl) ⟨rfl, rfl, trivial⟩
theorem citation_words_spec (c : api_Cite) (r : (List Str)) (hm : M.citation_words c = some r) : FSpec Tryd.prog 38 [(tapi_Cite.is c)] ((tL tS).is r) := by
 unfold M.citation_words at hm
 refine FSpec.of Tryd.func38 rfl rfl rfl (fun g0 => ?_)
 refine W.sr ?_
 refine WL.op rfl (.box (.tmp rfl)) ?_
 refine WL.op rfl (.assign (.nil (t := tS))) ?_
 refine WL.ns ?_
 refine W.seq ?_
 refine W.sr ?_
 refine WL.op rfl (.fieldAddr Tryd.underlying24 rfl (fun w => ⟨0, Tryd.sizeOf3 w⟩) fapi_Cite_0 (.tmp rfl)) ?_
 refine WL.op rfl (.load ty3 (.tmp rfl)) ?_
 refine WL.ns ?_
 refine W.block ?_
 refine W.sr ?_
 refine WL.op rfl (.eqI (.tmp rfl) .i64) ?_
 refine WL.gv rfl rfl ?_
 refine WL.ns ?_
 refine W.cond (.tmp rfl) (fun hc1 => ?_) (fun hc1 => ?_)
 ·have hp2 := of_decide_eq_true hc1
  rw [if_pos hp2] at hm
  refine W.sr ?_
  refine WL.op rfl (.fieldAddr Tryd.underlying24 rfl (fun w => ⟨0, Tryd.sizeOf22 w⟩) fapi_Cite_1 (.tmp rfl)) ?_
  refine WL.op rfl (.load ty22 (.tmp rfl)) ?_
  refine WL.op rfl (.fieldAddr Tryd.underlying24 rfl (fun w => ⟨0, Tryd.sizeOf22 w⟩) fapi_Cite_1 (.tmp rfl)) ?_
  refine WL.op rfl (.load ty22 (.tmp rfl)) ?_
  refine WL.op rfl (.lenL Tryd.underlying22 (.tmp rfl)) ?_
  obtain ⟨v, hv3, hm⟩ := bind_some hm
  refine WL.op rfl (.subC hv3 (.tmp rfl) .i64) ?_
  obtain ⟨v1, hv4, hm⟩ := bind_some hm
  refine WL.op rfl (.idx hv4 Tryd.underlying22 Tryd.sizeOf50 (.tmp rfl) (.tmp rfl)) ?_
  refine WL.op rfl (.load ty50 (.tmp rfl)) ?_
  refine WL.opR rfl (OpR.alloc 3 ze50) (fun b => ?_)
  refine WL.opU (OpR.storeB (b := b) 3 Tryd.sizeOf50 (Cellable.is tapi_Step v1) rfl (.tmp rfl) (.tmp rfl)) (fun _ => ?_)
  refine WL.sealed (t := tapi_Step) (u := v1) 3 3 rfl rfl ?_
  refine WL.ns ?_
  refine W.seq ?_
  obtain ⟨v2, hv5, hm⟩ := bind_some hm
  obtain ⟨v3, hv6, hm⟩ := bind_some hm
  obtain ⟨told, hv7, hm⟩ := bind_some hm
  obtain ⟨plural, hv8, hm⟩ := bind_some hm
  obtain ⟨v4, hv9, hm⟩ := bind_some hm
  obtain ⟨out, hv10, hm⟩ := bind_some hm
  refine W.weakR (res' := []) trivial ?_
  refine W.drawM [.c ((tL tapi_Step).ptr c.Path), .c ((tL tapi_Step).is c.Path), .c ((tL tapi_Step).ptr c.Path), .c ((tL tapi_Step).is c.Path), .c ((tI .i64).is (c.Path.length : Int)), .c ((tI .i64).is v2), .c ((tL tapi_Step).is v3), .f (fun cv => (tO tS (cv 0) told)), .c ((tL tS).is plural), .c ((tI .i64).ptr v1.Kind), .c ((tI .i64).is v1.Kind), .c (tS.ptr v4), .c (tS.is v4), .c (tS.ptr v1.Label), .c (tS.is v1.Label), .c (tS.ptr c.To), .c (tS.is c.To), .c ((tL tS).is ([v4, v1.Label, ([116, 111] : Str), c.To])), .f (fun cv => (tO tS (cv 1) out)), .f (fun cv => (tO tS (cv 1) out))] [([], [1]), ([0], []), ([], [1]), ([2], []), ([3], []), ([4], []), ([1, 5], []), ([6], []), ([], []), ([], [3]), ([9], []), ([8, 10], []), ([11], []), ([], [3]), ([13], []), ([], [1]), ([15], []), ([12, 14, 16], []), ([7, 17], []), ([18], [])] [7, 18] [[], [], [], [], [], [], [], [true], [], [], [], [], [], [], [], [], [], [], [false, true], [false, true]] (fun m cv => match m with | 0 => [] | 1 => [(23, Dec.Own tS 9 (cv 0) told.length)] | _ => [(23, Dec.Own tS 9 (cv 1) out.length)]) (fun _ => none) Tryd.mixed rfl rfl rfl rfl rfl ⟨fun _ _ _ _ => rfl, ⟨fun _ _ _ _ => rfl, ⟨fun _ _ _ _ => rfl, ⟨fun _ _ _ _ => rfl, ⟨fun _ _ _ _ => rfl, ⟨fun _ _ _ _ => rfl, ⟨fun _ _ _ _ => rfl, ⟨fun m hm c t => by simp only [DA.at, upd_dep (r := [true]) (j := 0) rfl hm], ⟨fun _ _ _ _ => rfl, ⟨fun _ _ _ _ => rfl, ⟨fun _ _ _ _ => rfl, ⟨fun _ _ _ _ => rfl, ⟨fun _ _ _ _ => rfl, ⟨fun _ _ _ _ => rfl, ⟨fun _ _ _ _ => rfl, ⟨fun _ _ _ _ => rfl, ⟨fun _ _ _ _ => rfl, ⟨fun _ _ _ _ => rfl, ⟨fun m hm c t => by simp only [DA.at, upd_dep (r := [false, true]) (j := 1) rfl hm], ⟨fun m hm c t => by simp only [DA.at, upd_dep (r := [false, true]) (j := 1) rfl hm], trivial⟩⟩⟩⟩⟩⟩⟩⟩⟩⟩⟩⟩⟩⟩⟩⟩⟩⟩⟩⟩ rfl ⟨mo fun cv => Op1.fieldAddr Tryd.underlying24 rfl (fun w => ⟨0, Tryd.sizeOf22 w⟩) fapi_Cite_1 (.tmp rfl), ⟨mo fun cv => Op1.load ty22 (.tmp rfl), ⟨mo fun cv => Op1.fieldAddr Tryd.underlying24 rfl (fun w => ⟨0, Tryd.sizeOf22 w⟩) fapi_Cite_1 (.tmp rfl), ⟨mo fun cv => Op1.load ty22 (.tmp rfl), ⟨mo fun cv => Op1.lenL Tryd.underlying22 (.tmp rfl), ⟨mo fun cv => Op1.subC hv5 (.tmp rfl) .i64, ⟨mo fun cv => Op1.slcHi hv6 Tryd.underlying22 Tryd.sizeOf50 (.tmp rfl) (.tmp rfl), ⟨.inl rfl, ⟨mo fun cv => Op1.call Tryd.call59 (citation_plural_spec _ hv8) trivial, ⟨mo fun cv => Op1.fieldAddr Tryd.underlying50 rfl (fun w => ⟨0, Tryd.sizeOf3 w⟩) fapi_Step_0 (.tmp rfl), ⟨mo fun cv => Op1.load ty3 (.tmp rfl), ⟨mo fun cv => Op1.idx hv9 Tryd.underlying28 Tryd.sizeOf9 (.tmp rfl) (.tmp rfl), ⟨mo fun cv => Op1.load ty9 (.tmp rfl), ⟨mo fun cv => Op1.fieldAddr Tryd.underlying50 rfl (fun w => ⟨0, Tryd.sizeOf9 w⟩) fapi_Step_1 (.tmp rfl), ⟨mo fun cv => Op1.load ty9 (.tmp rfl), ⟨mo fun cv => Op1.fieldAddr Tryd.underlying24 rfl (fun w => ⟨0, Tryd.sizeOf9 w⟩) fapi_Cite_2 (.tmp rfl), ⟨mo fun cv => Op1.load ty9 (.tmp rfl), ⟨mo fun cv => Op1.buildSlice (n := 4) (ys := [(0, v4), (1, v1.Label), (2, ([116, 111] : Str)), (3, c.To)]) (z := ([] : Str)) (xs := [v4, v1.Label, ([116, 111] : Str), c.To]) Tryd.underlying28 el9 ze9 ⟨rfl, (.tmp rfl), rfl, (.tmp rfl), rfl, (.str rfl (by decide)), rfl, (.tmp rfl), trivial⟩ (by simp) (by decide) rfl, ⟨.inl rfl, ⟨mo fun cv => Op1.assign (.tmp rfl), trivial⟩⟩⟩⟩⟩⟩⟩⟩⟩⟩⟩⟩⟩⟩⟩⟩⟩⟩⟩⟩ ⟨⟨_, _, _, [], (fun cv => [(23, Dec.Own tS 9 (cv 0) told.length)]), rfl, rfl, rfl, rfl, fun _ => rfl, fun _ _ => rfl, fun cv => OpR.call (us := []) Tryd.call58 ((citation_told_spec _ _ hv7).rekey 23) rfl ⟨(.tmp rfl), trivial⟩⟩, ⟨⟨_, _, _, [23], (fun cv => [(23, Dec.Own tS 9 (cv 1) out.length)]), rfl, rfl, rfl, rfl, fun _ => rfl, fun _ _ => rfl, fun cv => OpR.appC (key := 23) hv10 Tryd.underlying28 el9 (.tmp rfl) (.tmp rfl) rfl⟩, trivial⟩⟩ (fun cv => ?_)
  refine WN.seq ?_
  cases hm
  exact W.ret1 () rfl (Opd.own (.tmp rfl)) trivial
 ·have hp2 := of_decide_eq_false hc1
  rw [if_neg hp2] at hm
  refine W.sr ?_
  refine WL.op rfl (.eqI (.tmp rfl) .i64) ?_
  refine WL.gv rfl rfl ?_
  refine WL.ns ?_
  refine W.cond (.tmp rfl) (fun hc11 => ?_) (fun hc11 => ?_)
  ·have hp12 := of_decide_eq_true hc11
   rw [if_pos hp12] at hm
   refine W.sr ?_
   refine WL.opR rfl (OpR.buildSlice (n := 1) (ys := [(0, ([116, 104, 105, 115] : Str))]) (z := ([] : Str)) (xs := [([116, 104, 105, 115] : Str)]) 37 Tryd.underlying28 el9 ze9 ⟨rfl, (.str rfl (by decide)), trivial⟩ (by simp) (by decide) rfl) (fun k => ?_)
   refine WL.op rfl (.fieldAddr Tryd.underlying24 rfl (fun w => ⟨0, Tryd.sizeOf22 w⟩) fapi_Cite_1 (.tmp rfl)) ?_
   refine WL.op rfl (.load ty22 (.tmp rfl)) ?_
   obtain ⟨told1, hv13, hm⟩ := bind_some hm
   refine WL.op rfl (.call Tryd.call58 ((citation_told_spec _ _ hv13).read fun _ _ _ => tO_tL) ⟨(.tmp rfl), trivial⟩) ?_
   obtain ⟨out1, hv14, hm⟩ := bind_some hm
   refine WL.opR rfl (OpR.appC (key := 37) hv14 Tryd.underlying28 el9 (.tmp rfl) (.tmp rfl) rfl) (fun k1 => ?_)
   refine WL.gv rfl rfl ?_
   refine WL.ns ?_
   cases hm
   exact W.ret1 () rfl (Opd.own (.tmp rfl)) trivial
  ·have hp12 := of_decide_eq_false hc11
   rw [if_neg hp12] at hm
   refine W.sr ?_
   refine WL.op rfl (.eqI (.tmp rfl) .i64) ?_
   refine WL.gv rfl rfl ?_
   refine WL.ns ?_
   refine W.cond (.tmp rfl) (fun hc15 => ?_) (fun hc15 => ?_)
   ·have hp16 := of_decide_eq_true hc15
    rw [if_pos hp16] at hm
    refine W.sr ?_
    refine WL.opR rfl (OpR.buildSlice (n := 2) (ys := [(0, ([116, 104, 101] : Str)), (1, ([115, 97, 105, 100] : Str))]) (z := ([] : Str)) (xs := [([116, 104, 101] : Str), ([115, 97, 105, 100] : Str)]) 44 Tryd.underlying28 el9 ze9 ⟨rfl, (.str rfl (by decide)), rfl, (.str rfl (by decide)), trivial⟩ (by simp) (by decide) rfl) (fun k2 => ?_)
    refine WL.op rfl (.fieldAddr Tryd.underlying24 rfl (fun w => ⟨0, Tryd.sizeOf22 w⟩) fapi_Cite_1 (.tmp rfl)) ?_
    refine WL.op rfl (.load ty22 (.tmp rfl)) ?_
    obtain ⟨told2, hv17, hm⟩ := bind_some hm
    refine WL.op rfl (.call Tryd.call58 ((citation_told_spec _ _ hv17).read fun _ _ _ => tO_tL) ⟨(.tmp rfl), trivial⟩) ?_
    obtain ⟨out2, hv18, hm⟩ := bind_some hm
    refine WL.opR rfl (OpR.appC (key := 44) hv18 Tryd.underlying28 el9 (.tmp rfl) (.tmp rfl) rfl) (fun k3 => ?_)
    refine WL.gv rfl rfl ?_
    refine WL.ns ?_
    cases hm
    exact W.ret1 () rfl (Opd.own (.tmp rfl)) trivial
   ·have hp16 := of_decide_eq_false hc15
    rw [if_neg hp16] at hm
    refine W.sr ?_
    refine WL.op rfl (.eqI (.tmp rfl) .i64) ?_
    refine WL.gv rfl rfl ?_
    refine WL.ns ?_
    refine W.cond (.tmp rfl) (fun hc19 => ?_) (fun hc19 => ?_)
    ·have hp20 := of_decide_eq_true hc19
     rw [if_pos hp20] at hm
     refine W.sr ?_
     refine WL.opR rfl (OpR.buildSlice (n := 1) (ys := [(0, ([102, 111, 114, 109, 101, 114, 108, 121] : Str))]) (z := ([] : Str)) (xs := [([102, 111, 114, 109, 101, 114, 108, 121] : Str)]) 51 Tryd.underlying28 el9 ze9 ⟨rfl, (.str rfl (by decide)), trivial⟩ (by simp) (by decide) rfl) (fun k4 => ?_)
     refine WL.op rfl (.fieldAddr Tryd.underlying24 rfl (fun w => ⟨0, Tryd.sizeOf22 w⟩) fapi_Cite_1 (.tmp rfl)) ?_
     refine WL.op rfl (.load ty22 (.tmp rfl)) ?_
     obtain ⟨told3, hv21, hm⟩ := bind_some hm
     refine WL.op rfl (.call Tryd.call58 ((citation_told_spec _ _ hv21).read fun _ _ _ => tO_tL) ⟨(.tmp rfl), trivial⟩) ?_
     obtain ⟨out3, hv22, hm⟩ := bind_some hm
     refine WL.opR rfl (OpR.appC (key := 51) hv22 Tryd.underlying28 el9 (.tmp rfl) (.tmp rfl) rfl) (fun k5 => ?_)
     refine WL.gv rfl rfl ?_
     refine WL.ns ?_
     cases hm
     exact W.ret1 () rfl (Opd.own (.tmp rfl)) trivial
    ·have hp20 := of_decide_eq_false hc19
     rw [if_neg hp20] at hm
     refine W.skip ?_
     refine WN.block ?_
     refine WN.seq ?_
     refine W.sr ?_
     refine WL.op rfl (.fieldAddr Tryd.underlying24 rfl (fun w => ⟨0, Tryd.sizeOf22 w⟩) fapi_Cite_1 (.tmp rfl)) ?_
     refine WL.op rfl (.load ty22 (.tmp rfl)) ?_
     obtain ⟨told4, hv23, hm⟩ := bind_some hm
     refine WL.op rfl (.call Tryd.call58 ((citation_told_spec _ _ hv23).read fun _ _ _ => tO_tL) ⟨(.tmp rfl), trivial⟩) ?_
     refine WL.gv rfl rfl ?_
     refine WL.ns ?_
     cases hm
     exact W.ret1 () rfl (.tmp rfl) trivial
theorem strings_Builder_Grow_spec (n : Int) (b : Nat) {u : Unit} (hm : growC n = some u) : FSpecR Tryd.prog 55 [Bp b 0, (tI .i64).is n] [(0, Bx 2 true 66 (bldA none [] b) b), (1, Dec.Own (tI .u8) 5 none 0)] (fun _ : Tok => Asn.eq (.tuple #[])) (fun k => [(0, Bx 2 true 66 (bldA k [] b) b), (1, Dec.Own (tI .u8) 5 k 0)]) :=
 FSpecR.bldGrow bld_used bld_fresh bld_Grow 0 1 n b hm
theorem strings_Builder_WriteString_spec (l m r : Str) (k : Tok) (b : Nat) (hm : appC l m = some r) : FSpecR Tryd.prog 56 [Bp b 0, tS.is m] [(0, Bx 2 true 66 (bldA k l b) b), (1, Dec.Own (tI .u8) 5 k l.length)] (fun _ : Tok => Asn.any) (fun kx => [(0, Bx 2 true 66 (bldA kx r b) b), (1, Dec.Own (tI .u8) 5 kx r.length)]) := by
 refine FSpecR.of Tryd.func56 rfl rfl rfl (fun g0 => ?_)
 refine W.sr ?_
 refine WL.op rfl (.assign Opd.const) ?_
 refine WL.op rfl (.assign Opd.const) ?_
 refine WL.nr ?_
 refine WL.mv rfl rfl ?_
 refine WL.opR rfl (OpR.call (us := [0]) Tryd.call67 (FSpecR.bldCheck bld_used bld_fresh 0 k l b) rfl ⟨(.tmp rfl), trivial⟩) (fun _ => ?_)
 refine WL.nr ?_
 refine WL.mv rfl rfl ?_
 refine WL.mv rfl rfl ?_
 refine WL.op rfl (.nilCheckB (.tmp rfl)) ?_
 refine WL.op rfl (.fieldAddrB (o := 0) Tryd.underlying66 rfl (fun w => ⟨0, Tryd.sizeOf64 w⟩) (.tmp rfl) rfl) ?_
 refine WL.op rfl (.loadBld 0 Tryd.isAgg64 Tryd.sizeOf64 rfl (.tmp rfl)) ?_
 refine WL.mv rfl rfl ?_
 refine WL.opR rfl (OpR.appendS (key := 1) hm Tryd.underlying64 Tryd.underlying9 el5 (.tmp rfl) (.tmp rfl) rfl) (fun k2 => ?_)
 refine WL.op rfl (.nilCheckB (.tmp rfl)) ?_
 refine WL.op rfl (.fieldAddrB (o := 0) Tryd.underlying66 rfl (fun w => ⟨0, Tryd.sizeOf64 w⟩) (.tmp rfl) rfl) ?_
 refine WL.opU (OpR.storeBld (b := b) 0 Tryd.sizeOf64 rfl (.tmp rfl) (.tmp rfl)) (fun _ => ?_)
 refine WL.nr ?_
 refine WL.mv rfl rfl ?_
 refine WL.op rfl (.lenS Tryd.underlying9 (.tmp rfl)) ?_
 refine WL.gv rfl rfl ?_
 refine WL.op rfl (.assign Opd.const) ?_
 refine WL.nil ?_
 refine WN.seq ?_
 refine W.boxV (A' := bldA k2 r b) 0 rfl (fun _ _ => bldU_A) ?_
 exact W.retAny2 k2 rfl rfl ⟨rfl, rfl, rfl, rfl, trivial⟩
theorem strings_Builder_String_spec (k : Tok) (l : Str) (b : Nat) : FSpecR Tryd.prog 57 [Bp b 0] [(0, Bx 2 true 66 (bldA k l b) b), (1, Dec.Own (tI .u8) 5 k l.length)] (fun _ : Unit => tS.is l) (fun _ => []) :=
 FSpecR.bldString Tryd.underlying84 (by kernel_rfl) bld_str 0 1 k l b
theorem strings_Join_spec (elems : List Str) (sep : Str) (r : Str) (hm : M.strings_Join elems sep = some r) : FSpec Tryd.prog 37 [((tL tS).is elems), (tS.is sep)] (tS.is r) := by
 unfold M.strings_Join at hm
 refine FSpec.of Tryd.func37 rfl rfl rfl (fun g0 => ?_)
 refine W.sr ?_
 refine WL.op rfl (.assign (.str rfl (by decide))) ?_
 refine WL.ns ?_
 refine W.seq ?_
 refine W.sr ?_
 refine WL.mv rfl rfl ?_
 refine WL.op rfl (.lenL Tryd.underlying28 (.tmp rfl)) ?_
 refine WL.ns ?_
 refine W.block ?_
 refine W.sr ?_
 refine WL.op rfl (.eqI (.tmp rfl) .i64) ?_
 refine WL.gv rfl rfl ?_
 refine WL.ns ?_
 refine W.cond (.tmp rfl) (fun hc1 => ?_) (fun hc1 => ?_)
 ·have hp2 := of_decide_eq_true hc1
  rw [if_pos hp2] at hm
  refine W.sr ?_
  refine WL.op rfl (.assign (.str rfl (by decide))) ?_
  refine WL.ns ?_
  cases hm
  exact W.ret1 () rfl (.tmp rfl) trivial
 ·have hp2 := of_decide_eq_false hc1
  rw [if_neg hp2] at hm
  refine W.sr ?_
  refine WL.op rfl (.eqI (.tmp rfl) .i64) ?_
  refine WL.gv rfl rfl ?_
  refine WL.ns ?_
  refine W.cond (.tmp rfl) (fun hc3 => ?_) (fun hc3 => ?_)
  ·have hp4 := of_decide_eq_true hc3
   rw [if_pos hp4] at hm
   refine W.sr ?_
   refine WL.mv rfl rfl ?_
   obtain ⟨v, hv5, hm⟩ := bind_some hm
   refine WL.op rfl (.idx hv5 Tryd.underlying28 Tryd.sizeOf9 (.tmp rfl) .i64) ?_
   refine WL.op rfl (.load ty9 (.tmp rfl)) ?_
   refine WL.gv rfl rfl ?_
   refine WL.ns ?_
   cases hm
   exact W.ret1 () rfl (.tmp rfl) trivial
  ·have hp4 := of_decide_eq_false hc3
   rw [if_neg hp4] at hm
   refine W.skip ?_
   refine WN.block ?_
   refine WN.seq ?_
   refine W.sr ?_
   refine WL.op rfl (.assign .i64) ?_
   refine WL.ns ?_
   obtain ⟨s6, hs7, hk8⟩ := bind_some hm
   clear hm
   refine W.join (fun s : Int => s = s6) (fun s => [(5, ((tI .i64).is s)), (0, ((tL tS).is elems)), (1, (tS.is sep))]) (fun s => []) ?_ ?_
   ·rintro n0_ hj58
    try dsimp only at hj58
    subst hj58
    have hm := hk8
    clear hk8
    try dsimp only at hm
    change W _ _ _ _ _ _ _ [(5, ((tI .i64).is n0_)), (0, ((tL tS).is elems)), (1, (tS.is sep))] []
    refine W.seq ?_
    refine W.sr ?_
    refine WL.mv rfl rfl ?_
    refine WL.op rfl (.lenL Tryd.underlying28 (.tmp rfl)) ?_
    refine WL.op rfl (.move .i64) ?_
    refine WL.ns ?_
    refine W.block ?_
    obtain ⟨s22, hs23, hk24⟩ := bind_some hm
    clear hm
    refine W.loop (fun m (s : Int × List Str × List Str × Int) => m = s.2.2.1.length ∧ elems = s.2.1 ++ s.2.2.1 ∧ s.1 = (s.2.1.length : Int) ∧ M.strings_Join_loop1 s.2.2.1 s.2.2.2 = some s22) (fun s => [(41, ((tI .i64).is s.1)), (5, ((tI .i64).is s.2.2.2)), (0, ((tL tS).is elems)), (1, (tS.is sep)), (39, ((tL tS).is elems)), (40, ((tI .i64).is (elems.length : Int)))]) (fun s => []) elems.length ((0 : Int), [], elems, n0_) ⟨rfl, rfl, rfl, hs23⟩ ⟨Ent.q rfl, Ent.q rfl, Ent.q rfl, Ent.q rfl, Ent.q rfl, Ent.q rfl, trivial⟩ trivial ?_
    rintro m ⟨i, pre, rest3, n0_1⟩ ⟨hn28, hxs25, hi26, hm⟩
    try dsimp only at hn28 hxs25 hi26 hm
    change W _ _ _ _ _ _ _ [(41, ((tI .i64).is i)), (5, ((tI .i64).is n0_1)), (0, ((tL tS).is elems)), (1, (tS.is sep)), (39, ((tL tS).is elems)), (40, ((tI .i64).is (elems.length : Int)))] []
    refine W.lenL (s := 39) (.tmp rfl) fun hlen27 => ?_
    refine W.sr ?_
    refine WL.op rfl (.ltI (.tmp rfl) (.tmp rfl)) ?_
    refine WL.ns ?_
    refine W.seq ?_
    refine W.cond (.tmp rfl) (fun hc30 => ?_) (fun hc30 => ?_)
    ·have hp31 := of_decide_eq_true hc30
     obtain ⟨e, es, hrest33⟩ := range_more hxs25 hi26 hp31
     subst hrest33
     rw [M.strings_Join_loop1.eq_2] at hm
     refine W.skip ?_
     refine WN.seq ?_
     refine W.seq ?_
     refine W.block ?_
     refine W.sr ?_
     refine WL.op rfl (.idxPre hxs25 hi26 Tryd.underlying28 Tryd.sizeOf9 (.tmp rfl) (.tmp rfl)) ?_
     refine WL.op rfl (.load ty9 (.tmp rfl)) ?_
     refine WL.gv rfl rfl ?_
     refine WL.ns ?_
     refine W.seq ?_
     refine W.sr ?_
     refine WL.mv rfl rfl ?_
     refine WL.op rfl (.lenS Tryd.underlying9 (.tmp rfl)) ?_
     refine WL.mv rfl rfl ?_
     obtain ⟨v6, hv34, hm⟩ := bind_some hm
     refine WL.op rfl (.subC hv34 .i64 (.tmp rfl)) ?_
     refine WL.op rfl (.gtI (.tmp rfl) (.tmp rfl)) ?_
     refine WL.ns ?_
     refine W.cond (.tmp rfl) (fun hc35 => ?_) (fun hc35 => ?_)
     ·have hp36 := of_decide_eq_true hc35
      rw [if_pos hp36] at hm
      cases hm
     ·have hp36 := of_decide_eq_false hc35
      rw [if_neg hp36] at hm
      refine W.skip ?_
      refine WN.seq ?_
      refine W.region ?_
      refine WL.mv rfl rfl ?_
      refine WL.mv rfl rfl ?_
      refine WL.op rfl (.lenS Tryd.underlying9 (.tmp rfl)) ?_
      obtain ⟨v7, hv37, hm⟩ := bind_some hm
      refine WL.op rfl (.addC hv37 (.tmp rfl) (.tmp rfl)) ?_
      refine WL.gv rfl rfl ?_
      refine WL.nil ?_
      refine WN.block ?_
      refine WN.seq ?_
      refine W.region ?_
      refine WL.op rfl (.addI (.tmp rfl) .i64 (range_inR hi26 hp31 hlen27)) ?_
      refine WL.mv rfl rfl ?_
      refine WL.nil ?_
      exact WN.again es.length (i + 1, pre ++ [e], es, v7) (range_lt hn28) ⟨rfl, range_step hxs25, range_idx hi26, hm⟩ ⟨Ent.q rfl, Ent.q rfl, Ent.q rfl, Ent.q rfl, Ent.q rfl, Ent.q rfl, trivial⟩ trivial
    ·have hrest33 := range_end hxs25 hi26 (of_decide_eq_false hc30)
     subst hrest33
     rw [M.strings_Join_loop1.eq_1] at hm
     refine W.exit rfl ?_
     have hr38 := Option.some.inj hm
     clear hm
     subst hr38
     have hm := hk24
     try dsimp only at hm
     refine WN.seq ?_
     refine W.sr ?_
     refine WL.addNil (t := (tI .u8)) (E := 5) 1000008 ?_
     refine WL.opR rfl (OpR.allocBld 8 Tryd.zeroValue66) (fun b => ?_)
     refine WL.nr ?_
     refine WL.mv rfl rfl ?_
     obtain ⟨_, hv39, hm⟩ := bind_some hm
     refine WL.weakR (res' := [(8, (Bx 2 true 66 (bldA (none : Tok) ([] : Str) b) b)), (1000008, Dec.Own (tI .u8) 5 (none : Tok) ([] : Str).length)]) ⟨rfl, rfl, ⟨rfl, rfl, trivial⟩⟩ ?_
     refine WL.opR rfl (OpR.call (us := [8, 1000008]) (A := fun kx : Tok => (Asn.eq (.tuple #[]))) Tryd.call55 (FSpecR.keys (rin' := [(8, (Bx 2 true 66 (bldA (none : Tok) ([] : Str) b) b)), (1000008, Dec.Own (tI .u8) 5 (none : Tok) ([] : Str).length)]) (out' := fun kx : Tok => [(8, (Bx 2 true 66 (bldA kx ([] : Str) b) b)), (1000008, Dec.Own (tI .u8) 5 kx ([] : Str).length)]) (strings_Builder_Grow_spec _ _ hv39) rfl (fun _ => rfl)) rfl ⟨(.tmp rfl), (.tmp rfl), trivial⟩) (fun k => ?_)
     refine WL.nr ?_
     refine WL.mv rfl rfl ?_
     obtain ⟨v8, hv40, hm⟩ := bind_some hm
     refine WL.op rfl (.idx hv40 Tryd.underlying28 Tryd.sizeOf9 (.tmp rfl) .i64) ?_
     refine WL.op rfl (.load ty9 (.tmp rfl)) ?_
     obtain ⟨b1, hv41, hm⟩ := bind_some hm
     refine WL.weakR (res' := [(8, (Bx 2 true 66 (bldA k ([] : Str) b) b)), (1000008, Dec.Own (tI .u8) 5 k ([] : Str).length)]) ⟨rfl, rfl, ⟨rfl, rfl, trivial⟩⟩ ?_
     refine WL.opR rfl (OpR.call (us := [8, 1000008]) (A := fun kx : Tok => Asn.any) Tryd.call56 (FSpecR.keys (rin' := [(8, (Bx 2 true 66 (bldA k ([] : Str) b) b)), (1000008, Dec.Own (tI .u8) 5 k ([] : Str).length)]) (out' := fun kx : Tok => [(8, (Bx 2 true 66 (bldA kx b1 b) b)), (1000008, Dec.Own (tI .u8) 5 kx b1.length)]) (strings_Builder_WriteString_spec _ _ _ _ _ hv41) rfl (fun _ => rfl)) rfl ⟨(.tmp rfl), (.tmp rfl), trivial⟩) (fun k1 => ?_)
     refine WL.ns ?_
     refine W.seq ?_
     refine W.sr ?_
     refine WL.mv rfl rfl ?_
     obtain ⟨v9, hv42, hm⟩ := bind_some hm
     refine WL.op rfl (.slcLo hv42 Tryd.underlying28 Tryd.sizeOf9 (.tmp rfl) .i64) ?_
     refine WL.op rfl (.lenL Tryd.underlying28 (.tmp rfl)) ?_
     refine WL.op rfl (.move .i64) ?_
     refine WL.ns ?_
     refine W.block ?_
     obtain ⟨s43, hs44, hk45⟩ := bind_some hm
     clear hm
     refine W.loop (fun m (s : Int × List Str × List Str × ((Str) × Tok)) => m = s.2.2.1.length ∧ v9 = s.2.1 ++ s.2.2.1 ∧ s.1 = (s.2.1.length : Int) ∧ M.strings_Join_loop2 sep s.2.2.1 s.2.2.2.1 = some s43) (fun s => [(65, ((tI .i64).is s.1)), (1, (tS.is sep)), (8, (Bp b 0)), (63, ((tL tS).is v9)), (64, ((tI .i64).is (v9.length : Int)))]) (fun s => [(1000008, Dec.Own (tI .u8) 5 s.2.2.2.2 s.2.2.2.1.length), (8, (Bx 2 true 66 (bldA s.2.2.2.2 s.2.2.2.1 b) b))]) v9.length ((0 : Int), [], v9, (b1, k1)) ⟨rfl, rfl, rfl, hs44⟩ ⟨Ent.q rfl, Ent.q rfl, Ent.q rfl, Ent.q rfl, Ent.q rfl, trivial⟩ ⟨rfl, rfl, ⟨rfl, rfl, trivial⟩⟩ ?_
     rintro m ⟨i1, pre1, rest2, ⟨b2, k2⟩⟩ ⟨hn49, hxs46, hi47, hm⟩
     try dsimp only at hn49 hxs46 hi47 hm
     change W _ _ _ _ _ _ _ [(65, ((tI .i64).is i1)), (1, (tS.is sep)), (8, (Bp b 0)), (63, ((tL tS).is v9)), (64, ((tI .i64).is (v9.length : Int)))] [(1000008, Dec.Own (tI .u8) 5 k2 b2.length), (8, (Bx 2 true 66 (bldA k2 b2 b) b))]
     refine W.lenL (s := 63) (.tmp rfl) fun hlen48 => ?_
     refine W.sr ?_
     refine WL.op rfl (.ltI (.tmp rfl) (.tmp rfl)) ?_
     refine WL.ns ?_
     refine W.seq ?_
     refine W.cond (.tmp rfl) (fun hc51 => ?_) (fun hc51 => ?_)
     ·have hp52 := of_decide_eq_true hc51
      obtain ⟨e1, es1, hrest54⟩ := range_more hxs46 hi47 hp52
      subst hrest54
      rw [M.strings_Join_loop2.eq_2] at hm
      refine W.skip ?_
      refine WN.seq ?_
      refine W.seq ?_
      refine W.block ?_
      refine W.sr ?_
      refine WL.op rfl (.idxPre hxs46 hi47 Tryd.underlying28 Tryd.sizeOf9 (.tmp rfl) (.tmp rfl)) ?_
      refine WL.op rfl (.load ty9 (.tmp rfl)) ?_
      refine WL.gv rfl rfl ?_
      refine WL.nr ?_
      refine WL.mv rfl rfl ?_
      obtain ⟨b3, hv55, hm⟩ := bind_some hm
      refine WL.weakR (res' := [(8, (Bx 2 true 66 (bldA k2 b2 b) b)), (1000008, Dec.Own (tI .u8) 5 k2 b2.length)]) ⟨rfl, rfl, ⟨rfl, rfl, trivial⟩⟩ ?_
      refine WL.opR rfl (OpR.call (us := [8, 1000008]) (A := fun kx : Tok => Asn.any) Tryd.call56 (FSpecR.keys (rin' := [(8, (Bx 2 true 66 (bldA k2 b2 b) b)), (1000008, Dec.Own (tI .u8) 5 k2 b2.length)]) (out' := fun kx : Tok => [(8, (Bx 2 true 66 (bldA kx b3 b) b)), (1000008, Dec.Own (tI .u8) 5 kx b3.length)]) (strings_Builder_WriteString_spec _ _ _ _ _ hv55) rfl (fun _ => rfl)) rfl ⟨(.tmp rfl), (.tmp rfl), trivial⟩) (fun k3 => ?_)
      refine WL.nr1 ?_
      refine WL.mv rfl rfl ?_
      obtain ⟨b4, hv56, hm⟩ := bind_some hm
      refine WL.weakR (res' := [(8, (Bx 2 true 66 (bldA k3 b3 b) b)), (1000008, Dec.Own (tI .u8) 5 k3 b3.length)]) ⟨rfl, rfl, ⟨rfl, rfl, trivial⟩⟩ ?_
      refine WL.opR rfl (OpR.call (us := [8, 1000008]) (A := fun kx : Tok => Asn.any) Tryd.call56 (FSpecR.keys (rin' := [(8, (Bx 2 true 66 (bldA k3 b3 b) b)), (1000008, Dec.Own (tI .u8) 5 k3 b3.length)]) (out' := fun kx : Tok => [(8, (Bx 2 true 66 (bldA kx b4 b) b)), (1000008, Dec.Own (tI .u8) 5 kx b4.length)]) (strings_Builder_WriteString_spec _ _ _ _ _ hv56) rfl (fun _ => rfl)) rfl ⟨(.tmp rfl), (.tmp rfl), trivial⟩) (fun k4 => ?_)
      refine WL.nil ?_
      refine WN.block ?_
      refine WN.seq ?_
      refine W.region ?_
      refine WL.op rfl (.addI (.tmp rfl) .i64 (range_inR hi47 hp52 hlen48)) ?_
      refine WL.mv rfl rfl ?_
      refine WL.nil ?_
      exact WN.again es1.length (i1 + 1, pre1 ++ [e1], es1, (b4, k4)) (range_lt hn49) ⟨rfl, range_step hxs46, range_idx hi47, hm⟩ ⟨Ent.q rfl, Ent.q rfl, Ent.q rfl, Ent.q rfl, Ent.q rfl, trivial⟩ ⟨rfl, rfl, ⟨rfl, rfl, trivial⟩⟩
     ·have hrest54 := range_end hxs46 hi47 (of_decide_eq_false hc51)
      subst hrest54
      rw [M.strings_Join_loop2.eq_1] at hm
      refine W.exit rfl ?_
      have hr57 := Option.some.inj hm
      clear hm
      subst hr57
      have hm := hk45
      try dsimp only at hm
      refine WN.seq ?_
      refine W.sr ?_
      refine WL.weakR (res' := [(8, (Bx 2 true 66 (bldA k2 b2 b) b)), (1000008, Dec.Own (tI .u8) 5 k2 b2.length)]) ⟨rfl, rfl, ⟨rfl, rfl, trivial⟩⟩ ?_
      refine WL.opR rfl (OpR.call (us := [8, 1000008]) (A := fun kx : Unit => tS.is b2) Tryd.call57 (FSpecR.keys (rin' := [(8, (Bx 2 true 66 (bldA k2 b2 b) b)), (1000008, Dec.Own (tI .u8) 5 k2 b2.length)]) (out' := fun kx : Unit => []) (strings_Builder_String_spec _ _ _) rfl (fun _ => rfl)) rfl ⟨(.tmp rfl), trivial⟩) (fun _ => ?_)
      refine WL.gv rfl rfl ?_
      refine WL.ns ?_
      cases hm
      exact W.ret1 () rfl (.tmp rfl) trivial
   ·have hm := hs7
    clear hs7
    refine W.sr ?_
    refine WL.mv rfl rfl ?_
    refine WL.op rfl (.lenS Tryd.underlying9 (.tmp rfl)) ?_
    refine WL.op rfl (.gtI (.tmp rfl) .i64) ?_
    refine WL.ns ?_
    refine W.cond (.tmp rfl) (fun hc9 => ?_) (fun hc9 => ?_)
    ·have hp10 := of_decide_eq_true hc9
     rw [if_pos hp10] at hm
     obtain ⟨s11, hs12, hk13⟩ := bind_some hm
     clear hm
     refine W.join (fun s : Unit => s = s11) (fun s => [(0, ((tL tS).is elems)), (1, (tS.is sep)), (5, ((tI .i64).is (0 : Int)))]) (fun s => []) ?_ ?_
     ·rintro _ hj21
      try dsimp only at hj21
      subst hj21
      have hm := hk13
      clear hk13
      try dsimp only at hm
      change W _ _ _ _ _ _ _ [(0, ((tL tS).is elems)), (1, (tS.is sep)), (5, ((tI .i64).is (0 : Int)))] []
      refine W.region ?_
      refine WL.mv rfl rfl ?_
      refine WL.mv rfl rfl ?_
      refine WL.op rfl (.lenS Tryd.underlying9 (.tmp rfl)) ?_
      refine WL.mv rfl rfl ?_
      refine WL.op rfl (.lenL Tryd.underlying28 (.tmp rfl)) ?_
      obtain ⟨v3, hv18, hm⟩ := bind_some hm
      refine WL.op rfl (.subC hv18 (.tmp rfl) .i64) ?_
      obtain ⟨v4, hv19, hm⟩ := bind_some hm
      refine WL.op rfl (.mulC hv19 (.tmp rfl) (.tmp rfl)) ?_
      obtain ⟨v5, hv20, hm⟩ := bind_some hm
      refine WL.op rfl (.addC hv20 (.tmp rfl) (.tmp rfl)) ?_
      refine WL.gv rfl rfl ?_
      refine WL.nil ?_
      exact WN.meet v5 (Option.some.inj hm) ⟨Ent.q rfl, Ent.q rfl, Ent.q rfl, trivial⟩ trivial
     ·have hm := hs12
      clear hs12
      refine W.sr ?_
      refine WL.mv rfl rfl ?_
      refine WL.op rfl (.lenS Tryd.underlying9 (.tmp rfl)) ?_
      refine WL.mv rfl rfl ?_
      refine WL.op rfl (.lenL Tryd.underlying28 (.tmp rfl)) ?_
      obtain ⟨v1, hv14, hm⟩ := bind_some hm
      refine WL.op rfl (.subC hv14 (.tmp rfl) .i64) ?_
      obtain ⟨v2, hv15, hm⟩ := bind_some hm
      refine WL.op rfl (.quoC hv15 .i64 (.tmp rfl)) ?_
      refine WL.op rfl (.geI (.tmp rfl) (.tmp rfl)) ?_
      refine WL.ns ?_
      refine W.cond (.tmp rfl) (fun hc16 => ?_) (fun hc16 => ?_)
      ·have hp17 := of_decide_eq_true hc16
       rw [if_pos hp17] at hm
       cases hm
      ·have hp17 := of_decide_eq_false hc16
       rw [if_neg hp17] at hm
       refine W.skip ?_
       exact WN.meet () (Option.some.inj hm) ⟨Ent.q rfl, Ent.q rfl, Ent.q rfl, trivial⟩ trivial
    ·have hp10 := of_decide_eq_false hc9
     rw [if_neg hp10] at hm
     refine W.skip ?_
     exact WN.meet (0 : Int) (Option.some.inj hm) ⟨Ent.q rfl, Ent.q rfl, Ent.q rfl, trivial⟩ trivial
theorem citation_Format_spec (n : Nat) (c : api_Cite) (r : Str) (hm : M.citation_Format n c = some r) : FSpec Tryd.prog 16 [(tapi_Cite.is c)] (tS.is r) := by
 unfold M.citation_Format at hm
 refine FSpec.of Tryd.func16 rfl rfl rfl (fun g0 => ?_)
 refine W.sr ?_
 refine WL.op rfl (.box (.tmp rfl)) ?_
 refine WL.op rfl (.assign (.str rfl (by decide))) ?_
 refine WL.ns ?_
 refine W.seq ?_
 refine W.sr ?_
 refine WL.op rfl (.load ty24 (.tmp rfl)) ?_
 obtain ⟨valid, hv1, hm⟩ := bind_some hm
 refine WL.op rfl (.call Tryd.call15 (citation_Valid_spec _ _ _ hv1) ⟨(.tmp rfl), trivial⟩) ?_
 refine WL.op rfl (.notB (.tmp rfl)) ?_
 refine WL.ns ?_
 refine W.cond (.tmp rfl) (fun hc2 => ?_) (fun hc2 => ?_)
 ·have hp3 := not_pos hc2
  rw [if_pos hp3] at hm
  refine W.sr ?_
  refine WL.op rfl (.assign (.str rfl (by decide))) ?_
  refine WL.ns ?_
  cases hm
  exact W.ret1 () rfl (.tmp rfl) trivial
 ·have hp3 := not_neg hc2
  rw [if_neg hp3] at hm
  refine W.skip ?_
  refine WN.seq ?_
  refine W.sr ?_
  refine WL.op rfl (.load ty24 (.tmp rfl)) ?_
  obtain ⟨words, hv4, hm⟩ := bind_some hm
  refine WL.op rfl (.call Tryd.call38 (citation_words_spec _ _ hv4) ⟨(.tmp rfl), trivial⟩) ?_
  obtain ⟨join, hv5, hm⟩ := bind_some hm
  refine WL.op rfl (.call Tryd.call37 (strings_Join_spec _ _ _ hv5) ⟨(.tmp rfl), (.str rfl (by decide)), trivial⟩) ?_
  refine WL.gv rfl rfl ?_
  refine WL.ns ?_
  cases hm
  exact W.ret1 () rfl (.tmp rfl) trivial
end Go.Proofs.YtnmkblpbmoikpaaDoor
