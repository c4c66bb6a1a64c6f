/-
  The code does what the models say: written by program.
-/
import Derived.Test.YtclepigknhoonaaWb
set_option linter.unusedVariables false
set_option linter.unusedSimpArgs false
namespace Go.Proofs.Ytclepigknhoonaa
open Go Go.Dec

set_option maxRecDepth 100000
set_option maxHeartbeats 4000000
theorem r08_With_spec : ∀ (n : Nat) (u : api_Unit) (x : api_Unit) (r : api_Unit), M.r08_With n u x = some r → FSpec Try.prog 17 [(tapi_Unit.is u), (tapi_Unit.is x)] (tapi_Unit.is r) := by
 intro n
 induction n with
 | zero => intro u x r hm; cases hm
 | succ n ih =>
  intro u x r hm
  rw [M.r08_With.eq_2] at hm
  refine FSpec.of Try.func17 rfl rfl rfl fun g0 => Aw <| WL.opR rfl (OpR.boxB 2 (Cellable.is tapi_Unit u) (.t rfl)) fun b => WL.opR rfl (OpR.boxB 3 (Cellable.is tapi_Unit x) (.t rfl)) fun b1 => WL.opR rfl (OpR.alloc 4 ze27) fun b2 => An <| W.seq <| Aw <| Ao rfl (.fieldAddrB (o := 0) U27 rfl J23 (.t rfl) rfl) <| Ao rfl (.loadBF 2 rfl ty23 fapi_Unit_0 rfl (.t rfl)) <| Ao rfl (.fieldAddrB (o := 0) U27 rfl J23 (.t rfl) rfl) <| Ao rfl (.loadBF 3 rfl ty23 fapi_Unit_0 rfl (.t rfl)) <| Ao rfl (.eqSt (D := 2) rfl (by decide) eg23 eq23 (.t rfl) (.t rfl)) <| An <| W.cD hm (.t rfl) (fun hp2 hm => ?_) (fun hp2 hm => ?_)
  ·refine Aw <| Ao rfl (.fieldAddrB (o := 0) U27 rfl J25 (.t rfl) rfl) <| Ao rfl (.loadBF 2 rfl ty25 fapi_Unit_5 rfl (.t rfl)) <| Ao rfl (.fieldAddrB (o := 0) U27 rfl J25 (.t rfl) rfl) <| WL.opU (OpR.storeBF (b := b1) 3 rfl ty25 sapi_Unit_5 rfl (by decide) (.t rfl) (.t rfl)) fun _ => Ar <| Ao rfl (.loadB 3 Y27 Z27 rfl (.t rfl)) <| WL.opU (OpR.storeB (b := b2) 4 Z27 (Cellable.is tapi_Unit ({ x with Kids := u.Kids } : api_Unit)) rfl (.t rfl) (.t rfl)) fun _ => WL.ns ?_
   cases hm
   exact W.retQ1 () rfl (ResAt.cell 4 Y27 Z27 rfl (.t rfl)) trivial
  ·refine W.skip <| Aq <| Aw <| WL.opR rfl (OpR.buildSlice (n := 0) (ys := []) (z := zapi_Unit) (xs := ([] : List api_Unit)) 16 U25 el27 ze27 trivial (by simp) (by decide) rfl) fun k => Ag rfl rfl <| An <| W.seq <| Aw <| Ao rfl (.assign .i64) <| An <| W.block ?_
   obtain ⟨s3, hs4, hk5⟩ := Bs hm
   clear hm
   refine W.loop (fun m (s : ((List api_Unit) × Int) × Tok) => M.r08_With_loop1 u x (M.r08_With n) m s.1.1 s.1.2 = some s3) (fun s => [(5, (tO tapi_Unit s.2 s.1.1)), (6, (I6.is s.1.2)), (2, (Bp b 0)), (3, (Bp b1 0)), (4, (Bp b2 0))]) (fun s => [(16, Dec.Own tapi_Unit 27 s.2 s.1.1.length), (2, (Bx 8 true 27 (tapi_Unit.is u) b)), (3, (Bx 8 true 27 (tapi_Unit.is x) b1)), (4, (Bx 8 true 27 (tapi_Unit.is zapi_Unit) b2))]) _ ((([] : List api_Unit), (0 : Int)), k) hs4 ⟨.q rfl, .q rfl, .q rfl, .q rfl, .q rfl, trivial⟩ ⟨rfl, rfl, ⟨rfl, rfl, ⟨rfl, rfl, ⟨rfl, rfl, trivial⟩⟩⟩⟩ ?_
   rintro n6 ⟨⟨kids, i⟩, k1⟩ hm
   try dsimp only at hm
   change W _ _ _ _ _ _ _ [(5, (tO tapi_Unit k1 kids)), (6, (I6.is i)), (2, (Bp b 0)), (3, (Bp b1 0)), (4, (Bp b2 0))] [(16, Dec.Own tapi_Unit 27 k1 kids.length), (2, (Bx 8 true 27 (tapi_Unit.is u) b)), (3, (Bx 8 true 27 (tapi_Unit.is x) b1)), (4, (Bx 8 true 27 (tapi_Unit.is zapi_Unit) b2))]
   cases n6 with
   | zero => rw [M.r08_With_loop1.eq_1] at hm; cases hm
   | succ n6 =>
    rw [M.r08_With_loop1.eq_2] at hm
    refine W.seq <| Aw <| Am rfl rfl <| Ao rfl (.fieldAddrB (o := 0) U27 rfl J25 (.t rfl) rfl) <| Ao rfl (.loadBF 2 rfl ty25 fapi_Unit_5 rfl (.t rfl)) <| Ao rfl (.lenL U25 (.t rfl)) <| Ao rfl (.ltI (.t rfl) (.t rfl)) <| An <| W.cD hm (.t rfl) (fun hp8 hm => ?_) (fun hp8 hm => ?_)
    ·refine W.skip <| Aq <| W.seq <| W.block ?_
     obtain ⟨v, hv9, hm⟩ := Bs hm
     obtain ⟨with0_, hv10, hm⟩ := Bs hm
     obtain ⟨out, hv11, hm⟩ := Bs hm
     exact W.drawR [.c (tO tapi_Unit k1 kids), .c (Bp b 7), .c ((tL tapi_Unit).is u.Kids), .c (I6.is i), .c (tapi_Unit.ptr v), .c (tapi_Unit.is v), .c (tapi_Unit.is x), .c (tapi_Unit.is with0_), .c ((tL tapi_Unit).is [with0_]), .f (fun k2 => (tO tapi_Unit k2 out)), .f (fun k2 => (tO tapi_Unit k2 out))] [([], [5]), ([], [2]), ([1], []), ([], [6]), ([2, 3], []), ([4], []), ([], [3]), ([5, 6], []), ([7], []), ([0, 8], []), ([9], [])] 9 [16] (fun k : Tok => tO tapi_Unit k out) (fun k : Tok => [(16, Dec.Own tapi_Unit 27 k out.length)]) (none : Tok) Mx rfl rfl rfl (fun k2 => ⟨.inr (Op1.move (.t rfl)), .inr (Op1.fieldAddrB (o := 0) U27 rfl J25 (.t rfl) rfl), .inr (Op1.loadBF 2 rfl ty25 fapi_Unit_5 rfl (.t rfl)), .inr (Op1.move (.t rfl)), .inr (Op1.idx hv9 U25 Z27 (.t rfl) (.t rfl)), .inr (Op1.load ty27 (.t rfl)), .inr (Op1.loadB 3 Y27 Z27 rfl (.t rfl)), .inr (Op1.call C17 (ih _ _ _ hv10) ⟨(.t rfl), (.t rfl), trivial⟩), .inr (Op1.buildSlice (n := 1) (ys := [(0, with0_)]) (z := zapi_Unit) (xs := [with0_]) U25 el27 ze27 ⟨rfl, (.t rfl), trivial⟩ (by simp) (by decide) rfl), .inl rfl, .inr (Op1.assign (.t rfl)), trivial⟩) (.inl ⟨by decide, _, _, rfl, rfl, rfl, rfl, OpR.appC (key := 16) hv11 U25 el27 (.t rfl) (.t rfl) rfl⟩) fun k2 => WN.block <| Aq <| W.region <| Am rfl rfl <| WL.lenL (s := 19) (.t rfl) fun hl12 => Ao rfl (.addI1 (.t rfl) .i64 hp8 hl12) <| Ag rfl rfl <| WL.nil <| WN.again n6 ((out, i + 1), k2) (Nat.lt_succ_self n6) hm ⟨.q rfl, .q rfl, .q rfl, .q rfl, .q rfl, trivial⟩ ⟨rfl, rfl, ⟨rfl, rfl, ⟨rfl, rfl, ⟨rfl, rfl, trivial⟩⟩⟩⟩
    ·refine W.exit rfl ?_
     have hr13 := Si hm
     clear hm
     subst hr13
     have hm := hk5
     try dsimp only at hm
     refine Aq <| Aw <| Am rfl rfl <| Ao rfl (.fieldAddrB (o := 0) U27 rfl J25 (.t rfl) rfl) <| WL.opU (OpR.storeBF (b := b) 2 rfl ty25 sapi_Unit_5 rfl (by decide) (.t rfl) (Opd.own (.t rfl))) fun _ => Ar <| Ao rfl (.loadB 2 Y27 Z27 rfl (.t rfl)) <| WL.opU (OpR.storeB (b := b2) 4 Z27 (Cellable.is tapi_Unit ({ u with Kids := kids } : api_Unit)) rfl (.t rfl) (.t rfl)) fun _ => WL.ns ?_
     cases hm
     exact W.retQ1 () rfl (ResAt.cell 4 Y27 Z27 rfl (.t rfl)) trivial

theorem law48_EquivalenceDetects_spec (n : Nat) (u : api_Unit) (at0_ : Int) (r : Bool) (hm : M.law48_EquivalenceDetects n u at0_ = some r) : FSpecR Try.prog 5 [(tapi_Unit.is u), ((tI .u8).is at0_)] [(700000, GlE 0)] (fun _ : Unit => (tB.is r)) (fun _ => []) := by
 unfold M.law48_EquivalenceDetects at hm
 refine FSpecR.of Try.func5 rfl rfl rfl fun g0 => Aw <| Ao rfl (.box (.t rfl)) <| Ao rfl (.assign .bool) <| An <| W.seq ?_
 obtain ⟨s1, hs2, hk3⟩ := Bs hm
 clear hm
 refine W.join (fun s : Bool => s = s1) (fun s => [(22, (tB.is s)), (1, ((tI .u8).is at0_)), (2, (tapi_Unit.ptr u))]) (fun s => [(700000, GlE 0)]) ?_ ?_
 ·rintro v hj29
  try dsimp only at hj29
  subst hj29
  have hm := hk3
  clear hk3
  try dsimp only at hm
  change W _ _ _ _ _ _ _ [(22, (tB.is v)), (1, ((tI .u8).is at0_)), (2, (tapi_Unit.ptr u))] [(700000, GlE 0)]
  refine W.cB hm (.t rfl) (fun hp11 hm => ?_) (fun hp11 hm => ?_)
  ·refine W.sr ?_
   obtain ⟨awake, hv12, hm⟩ := Bs hm
   refine Ao rfl (.callG (rin := [(700000, GlE 0)]) C9 (law48_awake_spec _ _ hv12) ⟨rfl, trivial⟩ ⟨rfl, rfl, trivial⟩ trivial) <| Ag rfl rfl <| WL.ns ?_
   cases hm
   exact W.ret1 () rfl (.t rfl) trivial
  ·refine W.skip <| Aq <| Aw <| Ao rfl (.load ty27 (.t rfl)) ?_
   obtain ⟨units, hv13, hm⟩ := Bs hm
   refine Ao rfl (.call C16 (r12_Units_spec _ _ _ hv13) ⟨(.t rfl), trivial⟩) <| Ag rfl rfl <| Ar <| Am rfl rfl <| Am rfl rfl <| Ao rfl (.conv8 U5 U3 (.t rfl)) <| Am rfl rfl <| Ao rfl (.lenL U25 (.t rfl)) ?_
   obtain ⟨v1, hv14, hm⟩ := Bs hm
   refine Ao rfl (.subC hv14 (.t rfl) .i64) ?_
   obtain ⟨v2, hv15, hm⟩ := Bs hm
   refine Ao rfl (.remC hv15 (.t rfl) (.t rfl)) ?_
   obtain ⟨v3, hv16, hm⟩ := Bs hm
   refine Ao rfl (.addC hv16 .i64 (.t rfl)) ?_
   obtain ⟨v4, hv17, hm⟩ := Bs hm
   refine Ao rfl (.idx hv17 U25 Z27 (.t rfl) (.t rfl)) <| Ao rfl (.load ty27 (.t rfl)) <| WL.opR rfl (OpR.alloc 6 ze27) fun b => WL.opU (OpR.storeB (b := b) 6 Z27 (Cellable.is tapi_Unit v4) rfl (.t rfl) (.t rfl)) fun _ => Ar <| Ao rfl (.fieldAddrB (o := 0) U27 rfl J24 (.t rfl) rfl) <| Ao rfl (.loadBF 6 rfl ty24 fapi_Unit_4 rfl (.t rfl)) <| Ao rfl (.lenL U24 (.t rfl)) <| Ag rfl rfl <| Ar <| WL.opR rfl (OpR.buildSlice (n := 0) (ys := []) (z := zapi_Word) (xs := ([] : List api_Word)) 39 U24 el49 ze49 trivial (by simp) (by decide) rfl) fun k => Ao rfl (.fieldAddrB (o := 0) U27 rfl J24 (.t rfl) rfl) <| Ao rfl (.loadBF 6 rfl ty24 fapi_Unit_4 rfl (.t rfl)) ?_
   obtain ⟨out, hv18, hm⟩ := Bs hm
   refine WL.opR rfl (OpR.appC (key := 39) hv18 U24 el49 (.t rfl) (.t rfl) rfl) fun k1 => Ao rfl (.build (s := tapi_Word) (x := (⟨([109, 111, 114, 101] : Str), zapi_Mark⟩ : api_Word)) zapi_Word_f rfl U49 (zapi_Word_sz _ U49) ze49 ⟨_, tS, ([109, 111, 114, 101] : Str), _, _, rfl, Z9, (.str rfl (by decide)), sapi_Word_0, rfl⟩) <| Ao rfl (.buildSlice (n := 1) (ys := [(0, (⟨([109, 111, 114, 101] : Str), zapi_Mark⟩ : api_Word))]) (z := zapi_Word) (xs := [(⟨([109, 111, 114, 101] : Str), zapi_Mark⟩ : api_Word)]) U24 el49 ze49 ⟨rfl, (.t rfl), trivial⟩ (by simp) (by decide) rfl) ?_
   obtain ⟨out1, hv19, hm⟩ := Bs hm
   refine WL.opR rfl (OpR.appC (key := 39) hv19 U24 el49 (.t rfl) (.t rfl) rfl) fun k2 => Ao rfl (.fieldAddrB (o := 0) U27 rfl J24 (.t rfl) rfl) <| WL.opU (OpR.storeBF (b := b) 6 rfl ty24 sapi_Unit_4 rfl (by decide) (.t rfl) (Opd.own (.t rfl))) fun _ => An <| W.seq ?_
   obtain ⟨with0_, hv20, hm⟩ := Bs hm
   obtain ⟨self, hv21, hm⟩ := Bs hm
   obtain ⟨checkw, hv22, hm⟩ := Bs hm
   refine W.draw [.c _, .c _, .c _, .c _, .c _, .c _, .c _, .c _] [([], [2]), ([], [2]), ([], [6]), ([1, 2], []), ([], [2]), ([4], []), ([0, 3, 5], []), ([6], [])] Mx rfl rfl rfl rfl ⟨Dn (.load ty27 (.t rfl)), Dn (.load ty27 (.t rfl)), Dn (.loadB 6 Y27 Z27 rfl (.t rfl)), Dn (.call C17 (r08_With_spec _ _ _ _ hv20) ⟨(.t rfl), (.t rfl), trivial⟩), Dn (.load ty27 (.t rfl)), Dn (.call C10 (r48_Self_spec _ _ _ hv21) ⟨(.t rfl), trivial⟩), Dn (.callG (rin := [(700000, GlE 0)]) C12 (equivalence_CheckWords_spec _ _ _ _ _ hv22) ⟨rfl, trivial⟩ ⟨rfl, rfl, trivial⟩ ⟨(.t rfl), (.t rfl), (.t rfl), trivial⟩), Dn (.assign (.t rfl)), trivial⟩ <| Aq <| W.seq ?_
   rcases iteD hm with ⟨hp24, hb23, hm⟩ | ⟨hp24, hb23, hm⟩
   ·obtain ⟨v5, hv25, hm⟩ := Bs hm
    rcases iteD hm with ⟨hp27, hb26, hm⟩ | ⟨hp27, hb26, hm⟩
    ·obtain ⟨awake1, hv28, hm⟩ := Bs hm
     refine W.draw [.c _, .c _, .c _, .c _, .c _, .c _, .c _, .c _, .c _, .c _, .c _, .c _, .c _, .c _, .c _, .c _, .c _] [([], [8]), ([0], []), ([1], []), ([2], []), ([3], [8]), ([3, 4], []), ([3, 5], []), ([3], [7]), ([3], [6]), ([3, 8], []), ([3, 7, 9], []), ([3, 6, 10], []), ([3, 11], []), ([12], []), ([13], []), ([13, 14], []), ([15], [])] Mx rfl rfl rfl rfl ⟨Dn (.move (.t rfl)), Dn (.lenL U34 (.t rfl)), Dn (.eqI (.t rfl) .i64), Dn (.move (.t rfl)), Dr rfl hb23 (.move (.t rfl)), Dr rfl hb23 (.idx hv25 U34 Z53 (.t rfl) .i64), Dr rfl hb23 (.load ty53 (.t rfl)), Dr rfl hb23 (.move (.t rfl)), Dr rfl hb23 (.fieldAddrB (o := 0) U27 rfl J23 (.t rfl) rfl), Dr rfl hb23 (.loadBF 6 rfl ty23 fapi_Unit_0 rfl (.t rfl)), Dr rfl hb23 (.build (s := tapi_Finding) (x := (⟨(v4.Words.length : Int), ({ v4 with Words := out1 } : api_Unit).Id, (2 : Int), ([119, 111, 114, 100, 115] : Str)⟩ : api_Finding)) zapi_Finding_f rfl U53 (zapi_Finding_sz _ U53) ze53 ⟨_, I6, (v4.Words.length : Int), _, _, rfl, Z3, (.t rfl), sapi_Finding_0, ⟨_, tapi_Id, (({ v4 with Words := out1 } : api_Unit).Id), _, _, rfl, Z23, (.t rfl), sapi_Finding_1, ⟨_, I6, (2 : Int), _, _, rfl, Z51, .i64, sapi_Finding_2, ⟨_, tS, ([119, 111, 114, 100, 115] : Str), _, _, rfl, Z9, (.str rfl (by decide)), sapi_Finding_3, rfl⟩⟩⟩⟩), Dr rfl hb23 (.eqSt (D := 3) rfl (by decide) eg53 eq53 (.t rfl) (.t rfl)), Dn (.pickT (.t rfl) hb23 (.t rfl)), Dn (.move (.t rfl)), Dr rfl hb26 (.callG (rin := [(700000, GlE 0)]) C9 (law48_awake_spec _ _ hv28) ⟨rfl, trivial⟩ ⟨rfl, rfl, trivial⟩ trivial), Dn (.pickT (.t rfl) hb26 (.t rfl)), Dn (.assign (.t rfl)), trivial⟩ <| WN.seq ?_
     cases hm
     exact W.ret1 () rfl (.t rfl) trivial
    ·refine W.draw [.c _, .c _, .c _, .c _, .c _, .c _, .c _, .c _, .c _, .c _, .c _, .c _, .c _, .c _, .c _, .c _, .c _] [([], [8]), ([0], []), ([1], []), ([2], []), ([3], [8]), ([3, 4], []), ([3, 5], []), ([3], [7]), ([3], [6]), ([3, 8], []), ([3, 7, 9], []), ([3, 6, 10], []), ([3, 11], []), ([12], []), ([13], []), ([13, 14], []), ([15], [])] Mx rfl rfl rfl rfl ⟨Dn (.move (.t rfl)), Dn (.lenL U34 (.t rfl)), Dn (.eqI (.t rfl) .i64), Dn (.move (.t rfl)), Dr rfl hb23 (.move (.t rfl)), Dr rfl hb23 (.idx hv25 U34 Z53 (.t rfl) .i64), Dr rfl hb23 (.load ty53 (.t rfl)), Dr rfl hb23 (.move (.t rfl)), Dr rfl hb23 (.fieldAddrB (o := 0) U27 rfl J23 (.t rfl) rfl), Dr rfl hb23 (.loadBF 6 rfl ty23 fapi_Unit_0 rfl (.t rfl)), Dr rfl hb23 (.build (s := tapi_Finding) (x := (⟨(v4.Words.length : Int), ({ v4 with Words := out1 } : api_Unit).Id, (2 : Int), ([119, 111, 114, 100, 115] : Str)⟩ : api_Finding)) zapi_Finding_f rfl U53 (zapi_Finding_sz _ U53) ze53 ⟨_, I6, (v4.Words.length : Int), _, _, rfl, Z3, (.t rfl), sapi_Finding_0, ⟨_, tapi_Id, (({ v4 with Words := out1 } : api_Unit).Id), _, _, rfl, Z23, (.t rfl), sapi_Finding_1, ⟨_, I6, (2 : Int), _, _, rfl, Z51, .i64, sapi_Finding_2, ⟨_, tS, ([119, 111, 114, 100, 115] : Str), _, _, rfl, Z9, (.str rfl (by decide)), sapi_Finding_3, rfl⟩⟩⟩⟩), Dr rfl hb23 (.eqSt (D := 3) rfl (by decide) eg53 eq53 (.t rfl) (.t rfl)), Dn (.pickT (.t rfl) hb23 (.t rfl)), Dn (.move (.t rfl)), Dp rfl hb26, Dn (.pickF (.t rfl) hb26 .bool), Dn (.assign (.t rfl)), trivial⟩ <| WN.seq ?_
     cases hm
     exact W.ret1 () rfl (.t rfl) trivial
   ·refine W.draw [.c _, .c _, .c (tB.is (decide ((checkw.length : Int) = (1 : Int)))), .c (tB.is (decide ((checkw.length : Int) = (1 : Int)))), .c _, .c _, .c _, .c _, .c _, .c _, .c _, .c _, .c (tB.is false), .c (tB.is false), .c _, .c (tB.is false), .c (tB.is false)] [([], [8]), ([0], []), ([1], []), ([2], []), ([3], [8]), ([3, 4], []), ([3, 5], []), ([3], [7]), ([3], [6]), ([3, 8], []), ([3, 7, 9], []), ([3, 6, 10], []), ([3, 11], []), ([12], []), ([13], []), ([13, 14], []), ([15], [])] Mx rfl rfl rfl rfl ⟨Dn (.move (.t rfl)), Dn (.lenL U34 (.t rfl)), Dn (.eqI (.t rfl) .i64), Dn (.move (.t rfl)), Dp rfl hb23, Dp rfl hb23, Dp rfl hb23, Dp rfl hb23, Dp rfl hb23, Dp rfl hb23, Dp rfl hb23, Dp rfl hb23, Dn (.pickF (.t rfl) hb23 .bool), Dn (.move (.t rfl)), Dp rfl rfl, Dn (.pickF (.t rfl) rfl .bool), Dn (.assign (.t rfl)), trivial⟩ <| WN.seq ?_
    cases hm
    exact W.ret1 () rfl (.t rfl) trivial
 ·have hm := hs2
  clear hs2
  refine W.region <| Ao rfl (.load ty27 (.t rfl)) <| Ao rfl (.load ty27 (.t rfl)) ?_
  obtain ⟨heavy, hv4, hm⟩ := Bs hm
  refine Ao rfl (.call C7 (law48_heavy_spec _ _ _ _ _ _ _ hv4) ⟨(.t rfl), (.t rfl), (.nil (t := tapi_Destination)), (.nil (t := tapi_Meaning)), (.nil (t := tapi_Meaning)), trivial⟩) <| WL.mv rfl rfl ?_
  rcases iteB hm with ⟨hp6, hb5, hm⟩ | ⟨hp6, hb5, hm⟩
  ·exact Ap rfl hb5 <| Ap rfl hb5 <| Ap rfl hb5 <| Ao rfl (.pickT (.t rfl) hb5 .bool) <| Am rfl rfl <| Ap rfl rfl <| Ap rfl rfl <| Ap rfl rfl <| Ap rfl rfl <| Ao rfl (.pickT (.t rfl) rfl .bool) <| WL.nil <| WN.meet true (Si hm) ⟨.q rfl, .q rfl, .q rfl, trivial⟩ ⟨rfl, rfl, trivial⟩
  ·refine Ax rfl hb5 (.load ty27 (.t rfl)) ?_
   obtain ⟨once, hv7, hm⟩ := Bs hm
   refine Ax rfl hb5 (.call C8 (law48_once_spec _ _ _ hv7) ⟨(.t rfl), trivial⟩) <| Ax rfl hb5 (.notB (.t rfl)) <| Ao rfl (.pickF (.t rfl) hb5 (.t rfl)) <| WL.mv rfl rfl ?_
   rcases iteR hm with ⟨hp9, hb8, hm⟩ | ⟨hp9, hb8, hm⟩
   ·exact Ap rfl hb8 <| Ap rfl hb8 <| Ap rfl hb8 <| Ap rfl hb8 <| Ao rfl (.pickT (.t rfl) hb8 .bool) <| WL.nil <| WN.meet true (Si hm) ⟨.q rfl, .q rfl, .q rfl, trivial⟩ ⟨rfl, rfl, trivial⟩
   ·exact Ax rfl hb8 (.fieldAddr U27 rfl J25 fapi_Unit_5 (.t rfl)) <| Ax rfl hb8 (.load ty25 (.t rfl)) <| Ax rfl hb8 (.lenL U25 (.t rfl)) <| Ax rfl hb8 (.eqI (.t rfl) .i64) <| Ao rfl (.pickF (.t rfl) hb8 (.t rfl)) <| WL.nil <| WN.meet (decide ((u.Kids.length : Int) = (0 : Int))) (Si hm) ⟨.q rfl, .q rfl, .q rfl, trivial⟩ ⟨rfl, rfl, trivial⟩

theorem law48_EquivalenceTransitive_spec (n : Nat) (a : api_Unit) (b : api_Unit) (c : api_Unit) (l : List api_Destination) (m0_ : List api_Destination) (r : Bool) (hm : M.law48_EquivalenceTransitive n a b c l m0_ = some r) : FSpecR Try.prog 6 [(tapi_Unit.is a), (tapi_Unit.is b), (tapi_Unit.is c), ((tL tapi_Destination).is l), ((tL tapi_Destination).is m0_)] [(700000, GlE 0)] (fun _ : Unit => (tB.is r)) (fun _ => []) := by
 unfold M.law48_EquivalenceTransitive at hm
 refine FSpecR.of Try.func6 rfl rfl rfl fun g0 => Aw <| Ao rfl (.box (.t rfl)) <| Ao rfl (.box (.t rfl)) <| Ao rfl (.box (.t rfl)) <| Ao rfl (.assign .bool) <| An <| W.seq ?_
 obtain ⟨s1, hs2, hk3⟩ := Bs hm
 clear hm
 refine W.join (fun s : Bool => s = s1) (fun s => [(40, (tB.is s)), (3, ((tL tapi_Destination).is l)), (4, ((tL tapi_Destination).is m0_)), (5, (tapi_Unit.ptr a)), (6, (tapi_Unit.ptr b)), (7, (tapi_Unit.ptr c))]) (fun s => [(700000, GlE 0)]) ?_ ?_
 ·rintro v hj64
  try dsimp only at hj64
  subst hj64
  have hm := hk3
  clear hk3
  try dsimp only at hm
  change W _ _ _ _ _ _ _ [(40, (tB.is v)), (3, ((tL tapi_Destination).is l)), (4, ((tL tapi_Destination).is m0_)), (5, (tapi_Unit.ptr a)), (6, (tapi_Unit.ptr b)), (7, (tapi_Unit.ptr c))] [(700000, GlE 0)]
  refine W.cB hm (.t rfl) (fun hp18 hm => ?_) (fun hp18 hm => ?_)
  ·refine W.sr ?_
   obtain ⟨awake, hv19, hm⟩ := Bs hm
   refine Ao rfl (.callG (rin := [(700000, GlE 0)]) C9 (law48_awake_spec _ _ hv19) ⟨rfl, trivial⟩ ⟨rfl, rfl, trivial⟩ trivial) <| Ag rfl rfl <| WL.ns ?_
   cases hm
   exact W.ret1 () rfl (.t rfl) trivial
  ·refine W.skip <| Aq <| W.seq ?_
   obtain ⟨s20, hs21, hk22⟩ := Bs hm
   clear hm
   refine W.join (fun s : Bool => s = s20) (fun s => [(55, (tB.is s)), (3, ((tL tapi_Destination).is l)), (4, ((tL tapi_Destination).is m0_)), (5, (tapi_Unit.ptr a)), (7, (tapi_Unit.ptr c))]) (fun s => [(700000, GlE 0)]) ?_ ?_
   ·rintro v1 hj63
    try dsimp only at hj63
    subst hj63
    have hm := hk22
    clear hk22
    try dsimp only at hm
    change W _ _ _ _ _ _ _ [(55, (tB.is v1)), (3, ((tL tapi_Destination).is l)), (4, ((tL tapi_Destination).is m0_)), (5, (tapi_Unit.ptr a)), (7, (tapi_Unit.ptr c))] [(700000, GlE 0)]
    refine W.cB hm (.t rfl) (fun hp28 hm => ?_) (fun hp28 hm => ?_)
    ·refine W.sr ?_
     obtain ⟨awake1, hv29, hm⟩ := Bs hm
     refine Ao rfl (.callG (rin := [(700000, GlE 0)]) C9 (law48_awake_spec _ _ hv29) ⟨rfl, trivial⟩ ⟨rfl, rfl, trivial⟩ trivial) <| Ag rfl rfl <| WL.ns ?_
     cases hm
     exact W.ret1 () rfl (.t rfl) trivial
    ·refine W.skip <| Aq <| Aw <| WL.addNil (t := tapi_Destination) (E := 56) 11 <| Ao rfl (.assign (Opd.nilO (t := tapi_Destination))) <| An <| W.seq <| Aw <| Am rfl rfl <| Ao rfl (.lenL U32 (.t rfl)) <| Ao rfl (.move .i64) <| An <| W.block ?_
     obtain ⟨s30, hs31, hk32⟩ := Bs hm
     clear hm
     refine W.loop (fun m (s : Int × List api_Destination × List api_Destination × (((List api_Destination)) × Tok)) => m = s.2.2.1.length ∧ l = s.2.1 ++ s.2.2.1 ∧ s.1 = (s.2.1.length : Int) ∧ M.law48_EquivalenceTransitive_loop1 m0_ s.2.2.1 s.2.2.2.1 = some s30) (fun s => [(59, (I6.is s.1)), (11, (tO tapi_Destination s.2.2.2.2 s.2.2.2.1)), (4, ((tL tapi_Destination).is m0_)), (5, (tapi_Unit.ptr a)), (7, (tapi_Unit.ptr c)), (57, ((tL tapi_Destination).is l)), (58, (I6.is (l.length : Int)))]) (fun s => [(11, Dec.Own tapi_Destination 56 s.2.2.2.2 s.2.2.2.1.length), (700000, GlE 0)]) l.length ((0 : Int), [], l, (([] : List api_Destination), (none : Tok))) ⟨rfl, rfl, rfl, hs31⟩ ⟨.q rfl, .q rfl, .q rfl, .q rfl, .q rfl, .q rfl, .q rfl, trivial⟩ ⟨rfl, rfl, ⟨rfl, rfl, trivial⟩⟩ ?_
     rintro m ⟨i, pre, rest3, ⟨both, k⟩⟩ ⟨hn36, hxs33, hi34, hm⟩
     try dsimp only at hn36 hxs33 hi34 hm
     change W _ _ _ _ _ _ _ [(59, (I6.is i)), (11, (tO tapi_Destination k both)), (4, ((tL tapi_Destination).is m0_)), (5, (tapi_Unit.ptr a)), (7, (tapi_Unit.ptr c)), (57, ((tL tapi_Destination).is l)), (58, (I6.is (l.length : Int)))] [(11, Dec.Own tapi_Destination 56 k both.length), (700000, GlE 0)]
     refine W.lenL (s := 57) (.t rfl) fun hlen35 => Aw <| Ao rfl (.ltI (.t rfl) (.t rfl)) <| An <| W.seq <| W.cond (.t rfl) (fun hc38 => ?_) (fun hc38 => ?_)
     ·have hp39 := of_decide_eq_true hc38
      obtain ⟨e, es, hrest41⟩ := range_more hxs33 hi34 hp39
      subst hrest41
      rw [M.law48_EquivalenceTransitive_loop1.eq_2] at hm
      refine W.skip <| Aq <| W.seq <| W.block <| Aw <| Ao rfl (.idxPre hxs33 hi34 U32 Z56 (.t rfl) (.t rfl)) <| Ao rfl (.load ty56 (.t rfl)) <| WL.opR rfl (OpR.alloc 13 ze56) fun b1 => WL.opU (OpR.storeB (b := b1) 13 Z56 (Cellable.is tapi_Destination e) rfl (.t rfl) (.t rfl)) fun _ => WL.sealed (t := tapi_Destination) (u := e) 13 13 rfl rfl <| Ar <| Am rfl rfl <| Ao rfl (.lenL U32 (.t rfl)) <| Ao rfl (.move .i64) <| An <| W.block ?_
      obtain ⟨s42, hs43, hk44⟩ := Bs hm
      clear hm
      refine W.loop (fun m (s : Int × List api_Destination × List api_Destination × (((List api_Destination)) × Tok)) => m = s.2.2.1.length ∧ m0_ = s.2.1 ++ s.2.2.1 ∧ s.1 = (s.2.1.length : Int) ∧ M.law48_EquivalenceTransitive_loop2 e s.2.2.1 s.2.2.2.1 = some s42) (fun s => [(65, (I6.is s.1)), (11, (tO tapi_Destination s.2.2.2.2 s.2.2.2.1)), (4, ((tL tapi_Destination).is m0_)), (5, (tapi_Unit.ptr a)), (7, (tapi_Unit.ptr c)), (13, (tapi_Destination.ptr e)), (57, ((tL tapi_Destination).is l)), (58, (I6.is (l.length : Int))), (59, (I6.is i)), (63, ((tL tapi_Destination).is m0_)), (64, (I6.is (m0_.length : Int)))]) (fun s => [(11, Dec.Own tapi_Destination 56 s.2.2.2.2 s.2.2.2.1.length), (700000, GlE 0)]) m0_.length ((0 : Int), [], m0_, (both, k)) ⟨rfl, rfl, rfl, hs43⟩ ⟨.q rfl, .q rfl, .q rfl, .q rfl, .q rfl, .q rfl, .q rfl, .q rfl, .q rfl, .q rfl, .q rfl, trivial⟩ ⟨rfl, rfl, ⟨rfl, rfl, trivial⟩⟩ ?_
      rintro m ⟨i1, pre1, rest2, ⟨both1, k1⟩⟩ ⟨hn48, hxs45, hi46, hm⟩
      try dsimp only at hn48 hxs45 hi46 hm
      change W _ _ _ _ _ _ _ [(65, (I6.is i1)), (11, (tO tapi_Destination k1 both1)), (4, ((tL tapi_Destination).is m0_)), (5, (tapi_Unit.ptr a)), (7, (tapi_Unit.ptr c)), (13, (tapi_Destination.ptr e)), (57, ((tL tapi_Destination).is l)), (58, (I6.is (l.length : Int))), (59, (I6.is i)), (63, ((tL tapi_Destination).is m0_)), (64, (I6.is (m0_.length : Int)))] [(11, Dec.Own tapi_Destination 56 k1 both1.length), (700000, GlE 0)]
      refine W.lenL (s := 63) (.t rfl) fun hlen47 => Aw <| Ao rfl (.ltI (.t rfl) (.t rfl)) <| An <| W.seq <| W.cond (.t rfl) (fun hc50 => ?_) (fun hc50 => ?_)
      ·have hp51 := of_decide_eq_true hc50
       obtain ⟨e1, es1, hrest53⟩ := range_more hxs45 hi46 hp51
       subst hrest53
       rw [M.law48_EquivalenceTransitive_loop2.eq_2] at hm
       refine W.skip <| Aq <| W.seq <| W.block <| Aw <| Ao rfl (.idxPre hxs45 hi46 U32 Z56 (.t rfl) (.t rfl)) <| Ao rfl (.load ty56 (.t rfl)) <| WL.opR rfl (OpR.alloc 15 ze56) fun b2 => WL.opU (OpR.storeB (b := b2) 15 Z56 (Cellable.is tapi_Destination e1) rfl (.t rfl) (.t rfl)) fun _ => WL.sealed (t := tapi_Destination) (u := e1) 15 15 rfl rfl <| Ar <| Ao rfl (.fieldAddr U56 rfl J23 fapi_Destination_1 (.t rfl)) <| Ao rfl (.load ty23 (.t rfl)) <| Ao rfl (.fieldAddr U56 rfl J23 fapi_Destination_0 (.t rfl)) <| Ao rfl (.load ty23 (.t rfl)) <| Ao rfl (.eqSt (D := 2) rfl (by decide) eg23 eq23 (.t rfl) (.t rfl)) ?_
       refine An <| W.cD hm (.t rfl) (fun hp55 hm => ?_) (fun hp55 hm => ?_)
       ·refine W.region <| Am rfl rfl <| Ao rfl (.fieldAddr U56 rfl J23 fapi_Destination_0 (.t rfl)) <| Ao rfl (.load ty23 (.t rfl)) <| Ao rfl (.fieldAddr U56 rfl J23 fapi_Destination_1 (.t rfl)) <| Ao rfl (.load ty23 (.t rfl)) <| Ao rfl (.build (s := tapi_Destination) (x := (⟨e.From, e1.To⟩ : api_Destination)) zapi_Destination_f rfl U56 (zapi_Destination_sz _ U56) ze56 ⟨_, tapi_Id, e.From, _, _, rfl, Z23, (.t rfl), sapi_Destination_0, ⟨_, tapi_Id, e1.To, _, _, rfl, Z23, (.t rfl), sapi_Destination_1, rfl⟩⟩) <| Ao rfl (.buildSlice (n := 1) (ys := [(0, (⟨e.From, e1.To⟩ : api_Destination))]) (z := zapi_Destination) (xs := [(⟨e.From, e1.To⟩ : api_Destination)]) U32 el56 ze56 ⟨rfl, (.t rfl), trivial⟩ (by simp) (by decide) rfl) ?_
        obtain ⟨both2, hv56, hm⟩ := Bs hm
        exact WL.opR rfl (OpR.appC (key := 11) hv56 U32 el56 (.t rfl) (.t rfl) rfl) fun k2 => Ag rfl rfl <| WL.nil <| WN.block <| Aq <| W.region <| Ao rfl (.addI (.t rfl) .i64 (range_inR hi46 hp51 hlen47)) <| Am rfl rfl <| WL.nil <| WN.again es1.length (i1 + 1, pre1 ++ [e1], es1, (both2, k2)) (range_lt hn48) ⟨rfl, range_step hxs45, range_idx hi46, hm⟩ ⟨.q rfl, .q rfl, .q rfl, .q rfl, .q rfl, .q rfl, .q rfl, .q rfl, .q rfl, .q rfl, .q rfl, trivial⟩ ⟨rfl, rfl, ⟨rfl, rfl, trivial⟩⟩
       ·exact W.skip <| WN.block <| Aq <| W.region <| Ao rfl (.addI (.t rfl) .i64 (range_inR hi46 hp51 hlen47)) <| Am rfl rfl <| WL.nil <| WN.again es1.length (i1 + 1, pre1 ++ [e1], es1, (both1, k1)) (range_lt hn48) ⟨rfl, range_step hxs45, range_idx hi46, hm⟩ ⟨.q rfl, .q rfl, .q rfl, .q rfl, .q rfl, .q rfl, .q rfl, .q rfl, .q rfl, .q rfl, .q rfl, trivial⟩ ⟨rfl, rfl, ⟨rfl, rfl, trivial⟩⟩
      ·have hrest53 := range_end hxs45 hi46 (of_decide_eq_false hc50)
       subst hrest53
       rw [M.law48_EquivalenceTransitive_loop2.eq_1] at hm
       refine W.exit rfl ?_
       have hr57 := Si hm
       clear hm
       subst hr57
       have hm := hk44
       try dsimp only at hm
       exact WN.block <| Aq <| W.region <| Ao rfl (.addI (.t rfl) .i64 (range_inR hi34 hp39 hlen35)) <| Am rfl rfl <| WL.nil <| WN.again es.length (i + 1, pre ++ [e], es, (both1, k1)) (range_lt hn36) ⟨rfl, range_step hxs33, range_idx hi34, hm⟩ ⟨.q rfl, .q rfl, .q rfl, .q rfl, .q rfl, .q rfl, .q rfl, trivial⟩ ⟨rfl, rfl, ⟨rfl, rfl, trivial⟩⟩
     ·have hrest41 := range_end hxs33 hi34 (of_decide_eq_false hc38)
      subst hrest41
      rw [M.law48_EquivalenceTransitive_loop1.eq_1] at hm
      refine W.exit rfl ?_
      have hr58 := Si hm
      clear hm
      subst hr58
      have hm := hk32
      try dsimp only at hm
      refine Aq <| Aw <| Ao rfl (.load ty27 (.t rfl)) <| Ao rfl (.load ty27 (.t rfl)) <| WL.mv rfl rfl ?_
      obtain ⟨checkw2, hv59, hm⟩ := Bs hm
      refine Ao rfl (.callG (rin := [(700000, GlE 0)]) C12 (equivalence_CheckWords_spec _ _ _ _ _ hv59) ⟨rfl, trivial⟩ ⟨rfl, rfl, trivial⟩ ⟨(.t rfl), (.t rfl), (Opd.own (.t rfl)), trivial⟩) <| Ao rfl (.lenL U34 (.t rfl)) <| Ao rfl (.eqI (.t rfl) .i64) <| WL.mv rfl rfl ?_
      rcases iteD hm with ⟨hp61, hb60, hm⟩ | ⟨hp61, hb60, hm⟩
      ·obtain ⟨awake2, hv62, hm⟩ := Bs hm
       refine Ax rfl hb60 (.callG (rin := [(700000, GlE 0)]) C9 (law48_awake_spec _ _ hv62) ⟨rfl, trivial⟩ ⟨rfl, rfl, trivial⟩ trivial) <| Ao rfl (.pickT (.t rfl) hb60 (.t rfl)) <| Ag rfl rfl <| WL.ns ?_
       cases hm
       exact W.ret1 () rfl (.t rfl) trivial
      ·refine Ap rfl hb60 <| Ao rfl (.pickF (.t rfl) hb60 .bool) <| Ag rfl rfl <| WL.ns ?_
       cases hm
       exact W.ret1 () rfl (.t rfl) trivial
   ·have hm := hs21
    clear hs21
    refine W.region <| Ao rfl (.load ty27 (.t rfl)) <| Ao rfl (.load ty27 (.t rfl)) <| WL.mv rfl rfl ?_
    obtain ⟨checkw, hv23, hm⟩ := Bs hm
    refine Ao rfl (.callG (rin := [(700000, GlE 0)]) C12 (equivalence_CheckWords_spec _ _ _ _ _ hv23) ⟨rfl, trivial⟩ ⟨rfl, rfl, trivial⟩ ⟨(.t rfl), (.t rfl), (.t rfl), trivial⟩) <| Ao rfl (.lenL U34 (.t rfl)) <| Ao rfl (.neI (.t rfl) .i64) <| WL.mv rfl rfl ?_
    rcases iteD hm with ⟨hp25, hb24, hm⟩ | ⟨hp25, hb24, hm⟩
    ·exact Ap rfl hb24 <| Ap rfl hb24 <| Ap rfl hb24 <| Ap rfl hb24 <| Ap rfl hb24 <| Ap rfl hb24 <| Ao rfl (.pickT (.t rfl) hb24 .bool) <| WL.nil <| WN.meet true (Si hm) ⟨.q rfl, .q rfl, .q rfl, .q rfl, .q rfl, trivial⟩ ⟨rfl, rfl, trivial⟩
    ·refine Ax rfl hb24 (.load ty27 (.t rfl)) <| Ax rfl hb24 (.load ty27 (.t rfl)) <| Ax rfl hb24 (.move (.t rfl)) ?_
     obtain ⟨checkw1, hv26, hm⟩ := Bs hm
     exact Ax rfl hb24 (.callG (rin := [(700000, GlE 0)]) C12 (equivalence_CheckWords_spec _ _ _ _ _ hv26) ⟨rfl, trivial⟩ ⟨rfl, rfl, trivial⟩ ⟨(.t rfl), (.t rfl), (.t rfl), trivial⟩) <| Ax rfl hb24 (.lenL U34 (.t rfl)) <| Ax rfl hb24 (.neI (.t rfl) .i64) <| Ao rfl (.pickF (.t rfl) hb24 (.t rfl)) <| WL.nil <| WN.meet (decide ((checkw1.length : Int) ≠ (0 : Int))) (Si hm) ⟨.q rfl, .q rfl, .q rfl, .q rfl, .q rfl, trivial⟩ ⟨rfl, rfl, trivial⟩
 ·have hm := hs2
  clear hs2
  refine W.region <| Ao rfl (.load ty27 (.t rfl)) <| Ao rfl (.load ty27 (.t rfl)) <| WL.mv rfl rfl ?_
  obtain ⟨heavy, hv4, hm⟩ := Bs hm
  refine Ao rfl (.call C7 (law48_heavy_spec _ _ _ _ _ _ _ hv4) ⟨(.t rfl), (.t rfl), (.t rfl), (.nil (t := tapi_Meaning)), (.nil (t := tapi_Meaning)), trivial⟩) <| WL.mv rfl rfl ?_
  rcases iteB hm with ⟨hp6, hb5, hm⟩ | ⟨hp6, hb5, hm⟩
  ·refine Ap rfl hb5 <| Ap rfl hb5 <| Ap rfl hb5 <| Ap rfl hb5 <| Ao rfl (.pickT (.t rfl) hb5 .bool) <| Am rfl rfl <| Ap rfl rfl <| Ap rfl rfl <| Ap rfl rfl <| Ao rfl (.pickT (.t rfl) rfl .bool) <| Am rfl rfl <| Ap rfl rfl <| Ap rfl rfl <| Ap rfl rfl <| Ao rfl (.pickT (.t rfl) rfl .bool) <| WL.mv rfl rfl ?_
   exact Ap rfl rfl <| Ap rfl rfl <| Ap rfl rfl <| Ao rfl (.pickT (.t rfl) rfl .bool) <| WL.nil <| WN.meet true (Si hm) ⟨.q rfl, .q rfl, .q rfl, .q rfl, .q rfl, .q rfl, trivial⟩ ⟨rfl, rfl, trivial⟩
  ·refine Ax rfl hb5 (.load ty27 (.t rfl)) <| Ax rfl hb5 (.load ty27 (.t rfl)) <| Ax rfl hb5 (.move (.t rfl)) ?_
   obtain ⟨heavy1, hv7, hm⟩ := Bs hm
   refine Ax rfl hb5 (.call C7 (law48_heavy_spec _ _ _ _ _ _ _ hv7) ⟨(.t rfl), (.t rfl), (.t rfl), (.nil (t := tapi_Meaning)), (.nil (t := tapi_Meaning)), trivial⟩) <| Ao rfl (.pickF (.t rfl) hb5 (.t rfl)) <| WL.mv rfl rfl ?_
   rcases iteB hm with ⟨hp9, hb8, hm⟩ | ⟨hp9, hb8, hm⟩
   ·exact Ap rfl hb8 <| Ap rfl hb8 <| Ap rfl hb8 <| Ao rfl (.pickT (.t rfl) hb8 .bool) <| Am rfl rfl <| Ap rfl rfl <| Ap rfl rfl <| Ap rfl rfl <| Ao rfl (.pickT (.t rfl) rfl .bool) <| Am rfl rfl <| Ap rfl rfl <| Ap rfl rfl <| Ap rfl rfl <| Ao rfl (.pickT (.t rfl) rfl .bool) <| WL.nil <| WN.meet true (Si hm) ⟨.q rfl, .q rfl, .q rfl, .q rfl, .q rfl, .q rfl, trivial⟩ ⟨rfl, rfl, trivial⟩
   ·refine Ax rfl hb8 (.load ty27 (.t rfl)) ?_
    obtain ⟨once, hv10, hm⟩ := Bs hm
    refine Ax rfl hb8 (.call C8 (law48_once_spec _ _ _ hv10) ⟨(.t rfl), trivial⟩) <| Ax rfl hb8 (.notB (.t rfl)) <| Ao rfl (.pickF (.t rfl) hb8 (.t rfl)) <| WL.mv rfl rfl ?_
    rcases iteR hm with ⟨hp12, hb11, hm⟩ | ⟨hp12, hb11, hm⟩
    ·exact Ap rfl hb11 <| Ap rfl hb11 <| Ap rfl hb11 <| Ao rfl (.pickT (.t rfl) hb11 .bool) <| Am rfl rfl <| Ap rfl rfl <| Ap rfl rfl <| Ap rfl rfl <| Ao rfl (.pickT (.t rfl) rfl .bool) <| WL.nil <| WN.meet true (Si hm) ⟨.q rfl, .q rfl, .q rfl, .q rfl, .q rfl, .q rfl, trivial⟩ ⟨rfl, rfl, trivial⟩
    ·refine Ax rfl hb11 (.load ty27 (.t rfl)) ?_
     obtain ⟨once1, hv13, hm⟩ := Bs hm
     refine Ax rfl hb11 (.call C8 (law48_once_spec _ _ _ hv13) ⟨(.t rfl), trivial⟩) <| Ax rfl hb11 (.notB (.t rfl)) <| Ao rfl (.pickF (.t rfl) hb11 (.t rfl)) <| WL.mv rfl rfl ?_
     rcases iteR hm with ⟨hp15, hb14, hm⟩ | ⟨hp15, hb14, hm⟩
     ·exact Ap rfl hb14 <| Ap rfl hb14 <| Ap rfl hb14 <| Ao rfl (.pickT (.t rfl) hb14 .bool) <| WL.nil <| WN.meet true (Si hm) ⟨.q rfl, .q rfl, .q rfl, .q rfl, .q rfl, .q rfl, trivial⟩ ⟨rfl, rfl, trivial⟩
     ·refine Ax rfl hb14 (.load ty27 (.t rfl)) ?_
      obtain ⟨once2, hv16, hm⟩ := Bs hm
      exact Ax rfl hb14 (.call C8 (law48_once_spec _ _ _ hv16) ⟨(.t rfl), trivial⟩) <| Ax rfl hb14 (.notB (.t rfl)) <| Ao rfl (.pickF (.t rfl) hb14 (.t rfl)) <| WL.nil <| WN.meet (!once2) (Si hm) ⟨.q rfl, .q rfl, .q rfl, .q rfl, .q rfl, .q rfl, trivial⟩ ⟨rfl, rfl, trivial⟩

end Go.Proofs.Ytclepigknhoonaa
