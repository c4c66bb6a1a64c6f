/-
  The code does what the models say: written by program.
-/
import Derived.Test.YtdnemlcoeecbjaaDoorBd
set_option linter.unusedVariables false
set_option linter.unusedSimpArgs false
namespace Go.Proofs.YtdnemlcoeecbjaaDoor
open Go Go.Dec

set_option maxRecDepth 100000
set_option maxHeartbeats 4000000
theorem destinations_To_1_spec (d : api_Destination) (c : api_Id) (r : Bool) (hm : M.destinations_To_1 d c = some r) : FSpec Tryd.prog 30 [(tapi_Destination.is d), (tapi_Id.ptr c)] (tB.is r) := by
 unfold M.destinations_To_1 at hm
 refine FSpec.of Tryd.func30 rfl rfl rfl fun g0 => Aw <| Ao rfl (.box (.t rfl)) <| Ao rfl (.assign .bool) <| Ar <| Ao rfl (.fieldAddr U36 rfl J24 fapi_Destination_0 (.t rfl)) <| Ao rfl (.load ty24 (.t rfl)) <| Ao rfl (.load ty24 (.t rfl)) <| Ao rfl (.eqSt (D := 2) rfl (by decide) eg24 eq24 (.t rfl) (.t rfl)) <| Ag rfl rfl <| WL.ns ?_
 cases hm
 exact W.ret1 () rfl (.t rfl) trivial

theorem slices_IndexFunc_api_Destination_api_Destination_spec (n : Nat) (s0_ : List api_Destination) (f : api_Destination → Option Bool) (r : Int) (hm : M.slices_IndexFunc_api_Destination_api_Destination n s0_ f = some r) : FSpec Tryd.prog 44 [((tL tapi_Destination).is s0_), (tF Tryd.prog (fun s : api_Destination × Bool => f s.1 = some s.2) (fun s : api_Destination × Bool => [tapi_Destination.is s.1]) (fun s : api_Destination × Bool => (tB.is s.2)))] (I6.is r) := by
 unfold M.slices_IndexFunc_api_Destination_api_Destination at hm
 refine FSpec.of Tryd.func44 rfl rfl rfl fun g0 => Aw <| Ao rfl (.assign .i64) <| An <| W.seq <| Aw <| Am rfl rfl <| Ao rfl (.lenL U22 (.t rfl)) <| Ao rfl (.move .i64) <| An <| W.block ?_
 obtain ⟨s1, hs2, hk3⟩ := Bs hm
 clear hm
 refine W.loop (fun m (s : Int) => M.slices_IndexFunc_api_Destination_api_Destination_loop1 s0_ f m s = some s1) (fun s => [(8, (I6.is s)), (0, ((tL tapi_Destination).is s0_)), (1, (tF Tryd.prog (fun s : api_Destination × Bool => f s.1 = some s.2) (fun s : api_Destination × Bool => [tapi_Destination.is s.1]) (fun s : api_Destination × Bool => (tB.is s.2)))), (7, (I6.is (s0_.length : Int)))]) (fun s => []) _ (0 : Int) hs2 ⟨.q rfl, .q rfl, .q rfl, .q rfl, trivial⟩ trivial ?_
 rintro n4 v hm
 try dsimp only at hm
 change W _ _ _ _ _ _ _ [(8, (I6.is v)), (0, ((tL tapi_Destination).is s0_)), (1, (tF Tryd.prog (fun s : api_Destination × Bool => f s.1 = some s.2) (fun s : api_Destination × Bool => [tapi_Destination.is s.1]) (fun s : api_Destination × Bool => (tB.is s.2)))), (7, (I6.is (s0_.length : Int)))] []
 cases n4 with
 | zero => rw [M.slices_IndexFunc_api_Destination_api_Destination_loop1.eq_1] at hm; cases hm
 | succ n4 =>
  rw [M.slices_IndexFunc_api_Destination_api_Destination_loop1.eq_2] at hm
  refine Aw <| Ao rfl (.ltI (.t rfl) (.t rfl)) <| An <| W.seq <| W.cD hm (.t rfl) (fun hp6 hm => ?_) (fun hp6 hm => ?_)
  ·refine W.skip <| Aq <| W.seq <| W.block <| Aw <| Am rfl rfl <| Ag rfl rfl <| Ar <| Am rfl rfl <| Am rfl rfl <| WL.mv rfl rfl ?_
   obtain ⟨v1, hv7, hm⟩ := Bs hm
   refine Ao rfl (.idx hv7 U22 Z36 (.t rfl) (.t rfl)) <| Ao rfl (.load ty36 (.t rfl)) ?_
   obtain ⟨v2, hv8, hm⟩ := Bs hm
   refine Ao rfl (.callF (ok := (fun s : api_Destination × Bool => f s.1 = some s.2)) (As := (fun s : api_Destination × Bool => [tapi_Destination.is s.1])) (A := (fun s : api_Destination × Bool => (tB.is s.2))) (s := (v1, v2)) (.t rfl) hv8 ⟨(.t rfl), trivial⟩) <| An <| W.cB hm (.t rfl) (fun hp10 hm => ?_) (fun hp10 hm => ?_)
   ·refine Aw <| Am rfl rfl <| Ag rfl rfl <| WL.ns ?_
    have hr11 := Si hm
    clear hm
    subst hr11
    have hm := hk3
    try dsimp only at hm
    cases hm
    exact W.ret1 () rfl (.t rfl) trivial
   ·exact W.skip <| WN.block <| Aq <| W.region <| WL.lenL (s := 0) (.t rfl) fun hl12 => Ao rfl (.addI1 (.t rfl) .i64 hp6 hl12) <| Am rfl rfl <| WL.nil <| WN.again n4 (v + 1) (Nat.lt_succ_self n4) hm ⟨.q rfl, .q rfl, .q rfl, .q rfl, trivial⟩ trivial
  ·refine W.exit rfl ?_
   have hr13 := Si hm
   clear hm
   subst hr13
   have hm := hk3
   try dsimp only at hm
   refine Aq <| Aw <| Ao rfl (.assign .i64) <| WL.ns ?_
   cases hm
   exact W.ret1 () rfl (.t rfl) trivial

theorem destinations_found_spec (n : Nat) (l : List api_Destination) (such : api_Destination → Option Bool) (r : api_Destination × Bool) (hm : M.destinations_found n l such = some r) : FSpec Tryd.prog 29 [((tL tapi_Destination).is l), (tF Tryd.prog (fun s : api_Destination × Bool => such s.1 = some s.2) (fun s : api_Destination × Bool => [tapi_Destination.is s.1]) (fun s : api_Destination × Bool => (tB.is s.2)))] (Asn.tuple2 (tapi_Destination.is r.1) (tB.is r.2)) := by
 unfold M.destinations_found at hm
 refine FSpec.of Tryd.func29 rfl rfl rfl fun g0 => Aw <| WL.opR rfl (OpR.alloc 4 ze36) fun b => Ao rfl (.assign .bool) <| Ar <| Am rfl rfl <| WL.mv rfl rfl ?_
 obtain ⟨destin, hv1, hm⟩ := Bs hm
 refine Ao rfl (.call C44 (slices_IndexFunc_api_Destination_api_Destination_spec _ _ _ _ hv1) ⟨(.t rfl), (.t rfl), trivial⟩) <| Ag rfl rfl <| An <| W.seq <| Aw <| Am rfl rfl <| Ao rfl (.ltI (.t rfl) .i64) <| An <| W.cD hm (.t rfl) (fun hp3 hm => ?_) (fun hp3 hm => ?_)
 ·refine Aw <| Ao rfl (.build (s := tapi_Destination) (x := (⟨zapi_Id, zapi_Id⟩ : api_Destination)) zapi_Destination_f rfl U36 (zapi_Destination_sz _ U36) ze36 rfl) <| WL.opU (OpR.storeB (b := b) 4 Z36 (Cellable.is tapi_Destination (⟨zapi_Id, zapi_Id⟩ : api_Destination)) rfl (.t rfl) (.t rfl)) fun _ => Ao rfl (.assign .bool) <| WL.ns ?_
  cases hm
  exact W.retQ2 () rfl rfl (ResAt.cell 4 Y36 Z36 rfl (.t rfl)) (ResAt.tmp (.t rfl)) trivial
 ·refine W.skip <| Aq <| Aw <| Am rfl rfl <| WL.mv rfl rfl ?_
  obtain ⟨v, hv4, hm⟩ := Bs hm
  refine Ao rfl (.idx hv4 U22 Z36 (.t rfl) (.t rfl)) <| Ao rfl (.load ty36 (.t rfl)) <| WL.opU (OpR.storeB (b := b) 4 Z36 (Cellable.is tapi_Destination v) rfl (.t rfl) (.t rfl)) fun _ => Ao rfl (.assign .bool) <| WL.ns ?_
  cases hm
  exact W.retQ2 () rfl rfl (ResAt.cell 4 Y36 Z36 rfl (.t rfl)) (ResAt.tmp (.t rfl)) trivial

theorem destinations_To_spec (n : Nat) (id : api_Id) (l : List api_Destination) (r : api_Id × Bool) (hm : M.destinations_To n id l = some r) : FSpec Tryd.prog 11 [(tapi_Id.is id), ((tL tapi_Destination).is l)] (Asn.tuple2 (tapi_Id.is r.1) (tB.is r.2)) := by
 unfold M.destinations_To at hm
 refine FSpec.of Tryd.func11 rfl rfl rfl fun g0 => Aw <| Ao rfl (.box (.t rfl)) <| WL.opR rfl (OpR.alloc 4 ze24) fun b => Ao rfl (.assign .bool) <| Ar <| Am rfl rfl <| Ao rfl (.makeFunc (ok := (fun s : api_Destination × Bool => (fun s0 => M.destinations_To_1 s0 id) s.1 = some s.2)) (As := (fun s : api_Destination × Bool => [tapi_Destination.is s.1])) (A := (fun s : api_Destination × Bool => (tB.is s.2))) (Cs := [(tapi_Id.ptr id)]) (cap := [.tmp 2]) C30 ⟨(.t rfl), trivial⟩ (fun s hs => destinations_To_1_spec _ _ _ hs)) ?_
 obtain ⟨found, hv1, hm⟩ := Bs hm
 refine Ao rfl (.call C29 (destinations_found_spec _ _ _ _ hv1) ⟨(.t rfl), (.t rfl), trivial⟩) <| Am rfl rfl <| Ao rfl (.extract0 (.t rfl)) <| Ao rfl (.extract1 (.t rfl)) <| WL.opR rfl (OpR.alloc 6 ze36) fun b1 => WL.opU (OpR.storeB (b := b1) 6 Z36 (Cellable.is tapi_Destination found.1) rfl (.t rfl) (.t rfl)) fun _ => WL.sealed (t := tapi_Destination) (u := found.1) 6 6 rfl rfl <| Ag rfl rfl <| Ar <| Ao rfl (.fieldAddr U36 rfl J24 fapi_Destination_1 (.t rfl)) <| Ao rfl (.load ty24 (.t rfl)) <| Am rfl rfl <| WL.opU (OpR.storeB (b := b) 4 Z24 (Cellable.is tapi_Id found.1.To) rfl (.t rfl) (.t rfl)) fun _ => Ag rfl rfl <| WL.ns ?_
 cases hm
 exact W.retQ2 () rfl rfl (ResAt.cell 4 Y24 Z24 rfl (.t rfl)) (ResAt.tmp (.t rfl)) trivial

theorem destinations_From_1_spec (d : api_Destination) (c : api_Id) (r : Bool) (hm : M.destinations_From_1 d c = some r) : FSpec Tryd.prog 31 [(tapi_Destination.is d), (tapi_Id.ptr c)] (tB.is r) := by
 unfold M.destinations_From_1 at hm
 refine FSpec.of Tryd.func31 rfl rfl rfl fun g0 => Aw <| Ao rfl (.box (.t rfl)) <| Ao rfl (.assign .bool) <| Ar <| Ao rfl (.fieldAddr U36 rfl J24 fapi_Destination_1 (.t rfl)) <| Ao rfl (.load ty24 (.t rfl)) <| Ao rfl (.load ty24 (.t rfl)) <| Ao rfl (.eqSt (D := 2) rfl (by decide) eg24 eq24 (.t rfl) (.t rfl)) <| Ag rfl rfl <| WL.ns ?_
 cases hm
 exact W.ret1 () rfl (.t rfl) trivial

theorem destinations_From_spec (n : Nat) (id : api_Id) (l : List api_Destination) (r : api_Id × Bool) (hm : M.destinations_From n id l = some r) : FSpec Tryd.prog 12 [(tapi_Id.is id), ((tL tapi_Destination).is l)] (Asn.tuple2 (tapi_Id.is r.1) (tB.is r.2)) := by
 unfold M.destinations_From at hm
 refine FSpec.of Tryd.func12 rfl rfl rfl fun g0 => Aw <| Ao rfl (.box (.t rfl)) <| WL.opR rfl (OpR.alloc 4 ze24) fun b => Ao rfl (.assign .bool) <| Ar <| Am rfl rfl <| Ao rfl (.makeFunc (ok := (fun s : api_Destination × Bool => (fun s0 => M.destinations_From_1 s0 id) s.1 = some s.2)) (As := (fun s : api_Destination × Bool => [tapi_Destination.is s.1])) (A := (fun s : api_Destination × Bool => (tB.is s.2))) (Cs := [(tapi_Id.ptr id)]) (cap := [.tmp 2]) C31 ⟨(.t rfl), trivial⟩ (fun s hs => destinations_From_1_spec _ _ _ hs)) ?_
 obtain ⟨found, hv1, hm⟩ := Bs hm
 refine Ao rfl (.call C29 (destinations_found_spec _ _ _ _ hv1) ⟨(.t rfl), (.t rfl), trivial⟩) <| Am rfl rfl <| Ao rfl (.extract0 (.t rfl)) <| Ao rfl (.extract1 (.t rfl)) <| WL.opR rfl (OpR.alloc 6 ze36) fun b1 => WL.opU (OpR.storeB (b := b1) 6 Z36 (Cellable.is tapi_Destination found.1) rfl (.t rfl) (.t rfl)) fun _ => WL.sealed (t := tapi_Destination) (u := found.1) 6 6 rfl rfl <| Ag rfl rfl <| Ar <| Ao rfl (.fieldAddr U36 rfl J24 fapi_Destination_0 (.t rfl)) <| Ao rfl (.load ty24 (.t rfl)) <| Am rfl rfl <| WL.opU (OpR.storeB (b := b) 4 Z24 (Cellable.is tapi_Id found.1.From) rfl (.t rfl) (.t rfl)) fun _ => Ag rfl rfl <| WL.ns ?_
 cases hm
 exact W.retQ2 () rfl rfl (ResAt.cell 4 Y24 Z24 rfl (.t rfl)) (ResAt.tmp (.t rfl)) trivial

theorem strconv_Itoa_spec (n : Int) (r : Str) (hm : itoaM n = some r) : FSpecR Tryd.prog 70 [I6.is n] [(700005, GlT Tryd.prog "internal/strconv.uint64pow10" .u64 Lib.pow10Tab)] (fun _ : Unit => tS.is r) (fun _ => []) :=
 itoa_spec (fun n h0 h1 w ht => Tryd.strconv_Itoa n h0 h1 w ht) _ n r hm

theorem destinations_three_spec (id : api_Id) (r : Str) (hm : M.destinations_three id = some r) : FSpecR Tryd.prog 60 [(tapi_Id.is id)] [(700005, GlT Tryd.prog "internal/strconv.uint64pow10" .u64 Lib.pow10Tab)] (fun _ : Unit => (tS.is r)) (fun _ => []) := by
 unfold M.destinations_three at hm
 refine FSpecR.of Tryd.func60 rfl rfl rfl fun g0 => Aw <| Ao rfl (.box (.t rfl)) <| Ao rfl (.assign (.str rfl (by decide))) <| An <| W.seq ?_
 obtain ⟨itoa, hv1, hm⟩ := Bs hm
 obtain ⟨v, hv2, hm⟩ := Bs hm
 obtain ⟨itoa1, hv3, hm⟩ := Bs hm
 obtain ⟨v1, hv4, hm⟩ := Bs hm
 obtain ⟨v2, hv5, hm⟩ := Bs hm
 obtain ⟨itoa2, hv6, hm⟩ := Bs hm
 obtain ⟨v3, hv7, hm⟩ := Bs hm
 refine W.draw [.c _, .c _, .c _, .c _, .c _, .c _, .c _, .c _, .c _, .c _, .c _, .c _, .c _, .c _] [([], [1]), ([0], []), ([1], []), ([2], []), ([], [1]), ([4], []), ([5], []), ([3, 6], []), ([7], []), ([], [1]), ([9], []), ([10], []), ([8, 11], []), ([12], [])] Mx rfl rfl rfl rfl ⟨Dn (.fieldAddr U24 rfl J3 fapi_Id_0 (.t rfl)), Dn (.load ty3 (.t rfl)), Dn (.callG (rin := [(700005, GlT Tryd.prog "internal/strconv.uint64pow10" .u64 Lib.pow10Tab)]) C70 (strconv_Itoa_spec _ _ hv1) ⟨rfl, trivial⟩ ⟨rfl, rfl, trivial⟩ ⟨(.t rfl), trivial⟩), Dn (.catC hv2 (.t rfl) (.str rfl (by decide))), Dn (.fieldAddr U24 rfl J3 fapi_Id_1 (.t rfl)), Dn (.load ty3 (.t rfl)), Dn (.callG (rin := [(700005, GlT Tryd.prog "internal/strconv.uint64pow10" .u64 Lib.pow10Tab)]) C70 (strconv_Itoa_spec _ _ hv3) ⟨rfl, trivial⟩ ⟨rfl, rfl, trivial⟩ ⟨(.t rfl), trivial⟩), Dn (.catC hv4 (.t rfl) (.t rfl)), Dn (.catC hv5 (.t rfl) (.str rfl (by decide))), Dn (.fieldAddr U24 rfl J3 fapi_Id_2 (.t rfl)), Dn (.load ty3 (.t rfl)), Dn (.callG (rin := [(700005, GlT Tryd.prog "internal/strconv.uint64pow10" .u64 Lib.pow10Tab)]) C70 (strconv_Itoa_spec _ _ hv6) ⟨rfl, trivial⟩ ⟨rfl, rfl, trivial⟩ ⟨(.t rfl), trivial⟩), Dn (.catC hv7 (.t rfl) (.t rfl)), Dn (.assign (.t rfl)), trivial⟩ <| WN.seq ?_
 cases hm
 exact W.ret1 () rfl (.t rfl) trivial

theorem destinations_line_spec (d : api_Destination) (r : Str) (hm : M.destinations_line d = some r) : FSpecR Tryd.prog 41 [(tapi_Destination.is d)] [(700005, GlT Tryd.prog "internal/strconv.uint64pow10" .u64 Lib.pow10Tab)] (fun _ : Unit => (tS.is r)) (fun _ => []) := by
 unfold M.destinations_line at hm
 refine FSpecR.of Tryd.func41 rfl rfl rfl fun g0 => Aw <| Ao rfl (.box (.t rfl)) <| Ao rfl (.assign (.str rfl (by decide))) <| An <| W.seq ?_
 obtain ⟨three, hv1, hm⟩ := Bs hm
 obtain ⟨v, hv2, hm⟩ := Bs hm
 obtain ⟨three1, hv3, hm⟩ := Bs hm
 obtain ⟨v1, hv4, hm⟩ := Bs hm
 refine W.draw [.c _, .c _, .c _, .c _, .c _, .c _, .c _, .c _, .c _] [([], [1]), ([0], []), ([1], []), ([2], []), ([], [1]), ([4], []), ([5], []), ([3, 6], []), ([7], [])] Mx rfl rfl rfl rfl ⟨Dn (.fieldAddr U36 rfl J24 fapi_Destination_0 (.t rfl)), Dn (.load ty24 (.t rfl)), Dn (.callG (rin := [(700005, GlT Tryd.prog "internal/strconv.uint64pow10" .u64 Lib.pow10Tab)]) C60 (destinations_three_spec _ _ hv1) ⟨rfl, trivial⟩ ⟨rfl, rfl, trivial⟩ ⟨(.t rfl), trivial⟩), Dn (.catC hv2 (.t rfl) (.str rfl (by decide))), Dn (.fieldAddr U36 rfl J24 fapi_Destination_1 (.t rfl)), Dn (.load ty24 (.t rfl)), Dn (.callG (rin := [(700005, GlT Tryd.prog "internal/strconv.uint64pow10" .u64 Lib.pow10Tab)]) C60 (destinations_three_spec _ _ hv3) ⟨rfl, trivial⟩ ⟨rfl, rfl, trivial⟩ ⟨(.t rfl), trivial⟩), Dn (.catC hv4 (.t rfl) (.t rfl)), Dn (.assign (.t rfl)), trivial⟩ <| WN.seq ?_
 cases hm
 exact W.ret1 () rfl (.t rfl) trivial

theorem strings_Builder_WriteString_spec (l m r : Str) (k : Tok) (b : Nat) (hm : appC l m = some r) : FSpecR Tryd.prog 40 [Bp b 0, tS.is m] [(0, Bx 2 true 74 (bldA k l b) b), (1, Dec.Own (tI .u8) 5 k l.length)] (fun _ : Tok => Asn.any) (fun kx => [(0, Bx 2 true 74 (bldA kx r b) b), (1, Dec.Own (tI .u8) 5 kx r.length)]) := by
 refine FSpecR.of Tryd.func40 rfl rfl rfl fun g0 => Aw <| Ao rfl (.assign Opd.const) <| Ao rfl (.assign Opd.const) <| Ar <| Am rfl rfl <| WL.opR rfl (OpR.call (us := [0]) C59 (FSpecR.bldCheck bld_used bld_fresh 0 k l b) rfl ⟨(.t rfl), trivial⟩) fun _ => Ar <| Am rfl rfl <| Am rfl rfl <| Ao rfl (.nilCheckB (.t rfl)) <| Ao rfl (.fieldAddrB (o := 0) Tryd.underlying74 rfl J72 (.t rfl) rfl) <| Ao rfl (.loadBld 0 Y72 Z72 rfl (.t rfl)) <| Am rfl rfl <| WL.opR rfl (OpR.appendS (key := 1) hm U72 U9 el5 (.t rfl) (.t rfl) rfl) fun k2 => Ao rfl (.nilCheckB (.t rfl)) ?_
 exact Ao rfl (.fieldAddrB (o := 0) Tryd.underlying74 rfl J72 (.t rfl) rfl) <| WL.opU (OpR.storeBld (b := b) 0 Z72 rfl (.t rfl) (.t rfl)) fun _ => Ar <| Am rfl rfl <| Ao rfl (.lenS U9 (.t rfl)) <| Ag rfl rfl <| Ao rfl (.assign Opd.const) <| WL.nil <| Aq <| W.boxV (A' := bldA k2 r b) 0 rfl (fun _ _ => bldU_A) <| W.retAny2 k2 rfl rfl ⟨rfl, rfl, rfl, rfl, trivial⟩

theorem strings_Builder_String_spec (k : Tok) (l : Str) (b : Nat) : FSpecR Tryd.prog 42 [Bp b 0] [(0, Bx 2 true 74 (bldA k l b) b), (1, Dec.Own (tI .u8) 5 k l.length)] (fun _ : Unit => tS.is l) (fun _ => []) :=
 FSpecR.bldString U96 (by kernel_rfl) bld_str 0 1 k l b

theorem destinations_Format_spec (l : List api_Destination) (r : Str) (hm : M.destinations_Format l = some r) : FSpecR Tryd.prog 27 [((tL tapi_Destination).is l)] [(700005, GlT Tryd.prog "internal/strconv.uint64pow10" .u64 Lib.pow10Tab)] (fun _ : Unit => (tS.is r)) (fun _ => []) := by
 unfold M.destinations_Format at hm
 refine FSpecR.of Tryd.func27 rfl rfl rfl fun g0 => Aw <| Ao rfl (.assign (.str rfl (by decide))) <| Ar <| WL.addNil (t := (tI .u8)) (E := 5) 1000003 <| WL.opR rfl (OpR.allocBld 3 Tryd.zeroValue74) fun b => An <| W.seq <| Aw <| Am rfl rfl <| Ao rfl (.lenL U22 (.t rfl)) <| Ao rfl (.move .i64) <| An <| W.block ?_
 obtain ⟨s1, hs2, hk3⟩ := Bs hm
 clear hm
 refine W.loop (fun m (s : Int × List api_Destination × List api_Destination × ((Str) × Tok)) => m = s.2.2.1.length ∧ l = s.2.1 ++ s.2.2.1 ∧ s.1 = (s.2.1.length : Int) ∧ M.destinations_Format_loop1 s.2.2.1 s.2.2.2.1 = some s1) (fun s => [(8, (I6.is s.1)), (3, (Bp b 0)), (6, ((tL tapi_Destination).is l)), (7, (I6.is (l.length : Int)))]) (fun s => [(1000003, Dec.Own (tI .u8) 5 s.2.2.2.2 s.2.2.2.1.length), (3, (Bx 2 true 74 (bldA s.2.2.2.2 s.2.2.2.1 b) b)), (700005, GlT Tryd.prog "internal/strconv.uint64pow10" .u64 Lib.pow10Tab)]) l.length ((0 : Int), [], l, (([] : Str), (none : Tok))) ⟨rfl, rfl, rfl, hs2⟩ ⟨.q rfl, .q rfl, .q rfl, .q rfl, trivial⟩ ⟨rfl, rfl, ⟨rfl, rfl, ⟨rfl, rfl, trivial⟩⟩⟩ ?_
 rintro m ⟨i, pre, rest1, ⟨out, k⟩⟩ ⟨hn7, hxs4, hi5, hm⟩
 try dsimp only at hn7 hxs4 hi5 hm
 change W _ _ _ _ _ _ _ [(8, (I6.is i)), (3, (Bp b 0)), (6, ((tL tapi_Destination).is l)), (7, (I6.is (l.length : Int)))] [(1000003, Dec.Own (tI .u8) 5 k out.length), (3, (Bx 2 true 74 (bldA k out b) b)), (700005, GlT Tryd.prog "internal/strconv.uint64pow10" .u64 Lib.pow10Tab)]
 refine W.lenL (s := 6) (.t rfl) fun hlen6 => Aw <| Ao rfl (.ltI (.t rfl) (.t rfl)) <| An <| W.seq <| W.cond (.t rfl) (fun hc9 => ?_) (fun hc9 => ?_)
 ·have hp10 := of_decide_eq_true hc9
  obtain ⟨e, es, hrest12⟩ := range_more hxs4 hi5 hp10
  subst hrest12
  rw [M.destinations_Format_loop1.eq_2] at hm
  refine W.skip <| Aq <| W.seq <| W.block <| Aw <| Ao rfl (.idxPre hxs4 hi5 U22 Z36 (.t rfl) (.t rfl)) <| Ao rfl (.load ty36 (.t rfl)) <| WL.opR rfl (OpR.alloc 5 ze36) fun b1 => WL.opU (OpR.storeB (b := b1) 5 Z36 (Cellable.is tapi_Destination e) rfl (.t rfl) (.t rfl)) fun _ => WL.sealed (t := tapi_Destination) (u := e) 5 5 rfl rfl <| WL.nr1 <| Ao rfl (.load ty36 (.t rfl)) ?_
  obtain ⟨line, hv13, hm⟩ := Bs hm
  refine Ao rfl (.callG (rin := [(700005, GlT Tryd.prog "internal/strconv.uint64pow10" .u64 Lib.pow10Tab)]) C41 (destinations_line_spec _ _ hv13) ⟨rfl, trivial⟩ ⟨rfl, rfl, trivial⟩ ⟨(.t rfl), trivial⟩) ?_
  obtain ⟨v, hv14, hm⟩ := Bs hm
  refine Ao rfl (.catC hv14 (.t rfl) (.str rfl (by decide))) ?_
  obtain ⟨out1, hv15, hm⟩ := Bs hm
  exact WL.weakR (res' := [(3, (Bx 2 true 74 (bldA k out b) b)), (1000003, Dec.Own (tI .u8) 5 k out.length), (700005, GlT Tryd.prog "internal/strconv.uint64pow10" .u64 Lib.pow10Tab)]) ⟨rfl, rfl, ⟨rfl, rfl, ⟨rfl, rfl, trivial⟩⟩⟩ <| WL.opR rfl (OpR.call (us := [3, 1000003]) (A := fun kx : Tok => Asn.any) C40 (FSpecR.keys (rin' := [(3, (Bx 2 true 74 (bldA k out b) b)), (1000003, Dec.Own (tI .u8) 5 k out.length)]) (out' := fun kx : Tok => [(3, (Bx 2 true 74 (bldA kx out1 b) b)), (1000003, Dec.Own (tI .u8) 5 kx out1.length)]) (strings_Builder_WriteString_spec _ _ _ _ _ hv15) rfl (fun _ => rfl)) rfl ⟨(.t rfl), (.t rfl), trivial⟩) fun k1 => WL.nil <| WN.block <| Aq <| W.region <| Ao rfl (.addI (.t rfl) .i64 (range_inR hi5 hp10 hlen6)) <| Am rfl rfl <| WL.nil <| WN.again es.length (i + 1, pre ++ [e], es, (out1, k1)) (range_lt hn7) ⟨rfl, range_step hxs4, range_idx hi5, hm⟩ ⟨.q rfl, .q rfl, .q rfl, .q rfl, trivial⟩ ⟨rfl, rfl, ⟨rfl, rfl, ⟨rfl, rfl, trivial⟩⟩⟩
 ·have hrest12 := range_end hxs4 hi5 (of_decide_eq_false hc9)
  subst hrest12
  rw [M.destinations_Format_loop1.eq_1] at hm
  refine W.exit rfl ?_
  have hr16 := Si hm
  clear hm
  subst hr16
  have hm := hk3
  try dsimp only at hm
  refine Aq <| Aw <| WL.weakR (res' := [(3, (Bx 2 true 74 (bldA k out b) b)), (1000003, Dec.Own (tI .u8) 5 k out.length), (700005, GlT Tryd.prog "internal/strconv.uint64pow10" .u64 Lib.pow10Tab)]) ⟨rfl, rfl, ⟨rfl, rfl, ⟨rfl, rfl, trivial⟩⟩⟩ <| WL.opR rfl (OpR.call (us := [3, 1000003]) (A := fun kx : Unit => tS.is out) C42 (FSpecR.keys (rin' := [(3, (Bx 2 true 74 (bldA k out b) b)), (1000003, Dec.Own (tI .u8) 5 k out.length)]) (out' := fun kx : Unit => []) (strings_Builder_String_spec _ _ _) rfl (fun _ => rfl)) rfl ⟨(.t rfl), trivial⟩) fun _ => Ag rfl rfl <| WL.ns ?_
  cases hm
  exact W.ret1 () rfl (.t rfl) trivial

theorem law47_awake_spec (n : Nat)  (r : Bool) (hm : M.law47_awake n  = some r) : FSpecR Tryd.prog 10 [] [(700005, GlT Tryd.prog "internal/strconv.uint64pow10" .u64 Lib.pow10Tab)] (fun _ : Unit => (tB.is r)) (fun _ => []) := by
 unfold M.law47_awake at hm
 refine FSpecR.of Tryd.func10 rfl rfl rfl fun g0 => Aw <| Ao rfl (.assign .bool) <| Ar <| Ao rfl (.build (s := tapi_Id) (x := (⟨(1 : Int), (0 : Int), (3 : Int)⟩ : api_Id)) zapi_Id_f rfl U24 (zapi_Id_sz _ U24) ze24 ⟨_, I6, (1 : Int), _, _, rfl, Z3, .i64, sapi_Id_0, ⟨_, I6, (3 : Int), _, _, rfl, Z3, .i64, sapi_Id_2, rfl⟩⟩) <| Ao rfl (.build (s := tapi_Id) (x := (⟨(9 : Int), (0 : Int), (7 : Int)⟩ : api_Id)) zapi_Id_f rfl U24 (zapi_Id_sz _ U24) ze24 ⟨_, I6, (9 : Int), _, _, rfl, Z3, .i64, sapi_Id_0, ⟨_, I6, (7 : Int), _, _, rfl, Z3, .i64, sapi_Id_2, rfl⟩⟩) <| Ao rfl (.build (s := tapi_Destination) (x := (⟨(⟨(1 : Int), (0 : Int), (3 : Int)⟩ : api_Id), (⟨(9 : Int), (0 : Int), (7 : Int)⟩ : api_Id)⟩ : api_Destination)) zapi_Destination_f rfl U36 (zapi_Destination_sz _ U36) ze36 ⟨_, tapi_Id, (⟨(1 : Int), (0 : Int), (3 : Int)⟩ : api_Id), _, _, rfl, Z24, (.t rfl), sapi_Destination_0, ⟨_, tapi_Id, (⟨(9 : Int), (0 : Int), (7 : Int)⟩ : api_Id), _, _, rfl, Z24, (.t rfl), sapi_Destination_1, rfl⟩⟩) <| WL.opR rfl (OpR.alloc 1 ze36) fun b => WL.opU (OpR.storeB (b := b) 1 Z36 (Cellable.is tapi_Destination (⟨(⟨(1 : Int), (0 : Int), (3 : Int)⟩ : api_Id), (⟨(9 : Int), (0 : Int), (7 : Int)⟩ : api_Id)⟩ : api_Destination)) rfl (.t rfl) (.t rfl)) fun _ => WL.sealed (t := tapi_Destination) (u := (⟨(⟨(1 : Int), (0 : Int), (3 : Int)⟩ : api_Id), (⟨(9 : Int), (0 : Int), (7 : Int)⟩ : api_Id)⟩ : api_Destination)) 1 1 rfl rfl <| Ar <| Ao rfl (.fieldAddr U36 rfl J24 fapi_Destination_0 (.t rfl)) <| Ao rfl (.load ty24 (.t rfl)) <| Ao rfl (.load ty36 (.t rfl)) <| Ao rfl (.buildSlice (n := 1) (ys := [(0, (⟨(⟨(1 : Int), (0 : Int), (3 : Int)⟩ : api_Id), (⟨(9 : Int), (0 : Int), (7 : Int)⟩ : api_Id)⟩ : api_Destination))]) (z := zapi_Destination) (xs := [(⟨(⟨(1 : Int), (0 : Int), (3 : Int)⟩ : api_Id), (⟨(9 : Int), (0 : Int), (7 : Int)⟩ : api_Id)⟩ : api_Destination)]) U22 el36 ze36 ⟨rfl, (.t rfl), trivial⟩ (by simp) (by decide) rfl) ?_
 obtain ⟨to, hv1, hm⟩ := Bs hm
 refine Ao rfl (.call C11 (destinations_To_spec _ _ _ _ hv1) ⟨(.t rfl), (.t rfl), trivial⟩) <| Am rfl rfl <| Ao rfl (.extract0 (.t rfl)) <| Ao rfl (.extract1 (.t rfl)) <| WL.opR rfl (OpR.alloc 2 ze24) fun b1 => WL.opU (OpR.storeB (b := b1) 2 Z24 (Cellable.is tapi_Id to.1) rfl (.t rfl) (.t rfl)) fun _ => WL.sealed (t := tapi_Id) (u := to.1) 2 2 rfl rfl <| Ag rfl rfl <| Ar <| Ao rfl (.fieldAddr U36 rfl J24 fapi_Destination_1 (.t rfl)) <| Ao rfl (.load ty24 (.t rfl)) <| Ao rfl (.load ty36 (.t rfl)) <| Ao rfl (.buildSlice (n := 1) (ys := [(0, (⟨(⟨(1 : Int), (0 : Int), (3 : Int)⟩ : api_Id), (⟨(9 : Int), (0 : Int), (7 : Int)⟩ : api_Id)⟩ : api_Destination))]) (z := zapi_Destination) (xs := [(⟨(⟨(1 : Int), (0 : Int), (3 : Int)⟩ : api_Id), (⟨(9 : Int), (0 : Int), (7 : Int)⟩ : api_Id)⟩ : api_Destination)]) U22 el36 ze36 ⟨rfl, (.t rfl), trivial⟩ (by simp) (by decide) rfl) ?_
 obtain ⟨from0_, hv2, hm⟩ := Bs hm
 refine Ao rfl (.call C12 (destinations_From_spec _ _ _ _ hv2) ⟨(.t rfl), (.t rfl), trivial⟩) <| Am rfl rfl <| Ao rfl (.extract0 (.t rfl)) <| Ao rfl (.extract1 (.t rfl)) <| WL.opR rfl (OpR.alloc 4 ze24) fun b2 => WL.opU (OpR.storeB (b := b2) 4 Z24 (Cellable.is tapi_Id from0_.1) rfl (.t rfl) (.t rfl)) fun _ => WL.sealed (t := tapi_Id) (u := from0_.1) 4 4 rfl rfl <| Ag rfl rfl <| Ar <| Am rfl rfl <| WL.mv rfl rfl ?_
 rcases iteB hm with ⟨hp4, hb3, hm⟩ | ⟨hp4, hb3, hm⟩
 ·refine Ax rfl hb3 (.move (.t rfl)) <| Ao rfl (.pickT (.t rfl) hb3 (.t rfl)) <| WL.mv rfl rfl ?_
  rcases iteB hm with ⟨hp6, hb5, hm⟩ | ⟨hp6, hb5, hm⟩
  ·refine Ax rfl hb5 (.load ty24 (.t rfl)) <| Ax rfl hb5 (.fieldAddr U36 rfl J24 fapi_Destination_1 (.t rfl)) <| Ax rfl hb5 (.load ty24 (.t rfl)) <| Ax rfl hb5 (.eqSt (D := 2) rfl (by decide) eg24 eq24 (.t rfl) (.t rfl)) <| Ao rfl (.pickT (.t rfl) hb5 (.t rfl)) <| WL.mv rfl rfl ?_
   rcases iteD hm with ⟨hp8, hb7, hm⟩ | ⟨hp8, hb7, hm⟩
   ·refine Ax rfl hb7 (.load ty24 (.t rfl)) <| Ax rfl hb7 (.fieldAddr U36 rfl J24 fapi_Destination_0 (.t rfl)) <| Ax rfl hb7 (.load ty24 (.t rfl)) <| Ax rfl hb7 (.eqSt (D := 2) rfl (by decide) eg24 eq24 (.t rfl) (.t rfl)) <| Ao rfl (.pickT (.t rfl) hb7 (.t rfl)) <| WL.mv rfl rfl ?_
    rcases iteD hm with ⟨hp10, hb9, hm⟩ | ⟨hp10, hb9, hm⟩
    ·refine Ax rfl hb9 (.load ty36 (.t rfl)) <| Ax rfl hb9 (.buildSlice (n := 1) (ys := [(0, (⟨(⟨(1 : Int), (0 : Int), (3 : Int)⟩ : api_Id), (⟨(9 : Int), (0 : Int), (7 : Int)⟩ : api_Id)⟩ : api_Destination))]) (z := zapi_Destination) (xs := [(⟨(⟨(1 : Int), (0 : Int), (3 : Int)⟩ : api_Id), (⟨(9 : Int), (0 : Int), (7 : Int)⟩ : api_Id)⟩ : api_Destination)]) U22 el36 ze36 ⟨rfl, (.t rfl), trivial⟩ (by simp) (by decide) rfl) ?_
     obtain ⟨format, hv11, hm⟩ := Bs hm
     refine Ax rfl hb9 (.callG (rin := [(700005, GlT Tryd.prog "internal/strconv.uint64pow10" .u64 Lib.pow10Tab)]) C27 (destinations_Format_spec _ _ hv11) ⟨rfl, trivial⟩ ⟨rfl, rfl, trivial⟩ ⟨(.t rfl), trivial⟩) <| Ax rfl hb9 (.eqS (.t rfl) (.str rfl (by decide))) <| Ao rfl (.pickT (.t rfl) hb9 (.t rfl)) <| Ag rfl rfl <| WL.ns ?_
     cases hm
     exact W.ret1 () rfl (.t rfl) trivial
    ·refine Ap rfl hb9 <| Ap rfl hb9 <| Ap rfl hb9 <| Ap rfl hb9 <| Ao rfl (.pickF (.t rfl) hb9 .bool) <| Ag rfl rfl <| WL.ns ?_
     cases hm
     exact W.ret1 () rfl (.t rfl) trivial
   ·refine Ap rfl hb7 <| Ap rfl hb7 <| Ap rfl hb7 <| Ap rfl hb7 <| Ao rfl (.pickF (.t rfl) hb7 .bool) <| Am rfl rfl <| Ap rfl rfl <| Ap rfl rfl <| Ap rfl rfl <| Ap rfl rfl <| Ao rfl (.pickF (.t rfl) rfl .bool) <| Ag rfl rfl <| WL.ns ?_
    cases hm
    exact W.ret1 () rfl (.t rfl) trivial
  ·refine Ap rfl hb5 <| Ap rfl hb5 <| Ap rfl hb5 <| Ap rfl hb5 <| Ao rfl (.pickF (.t rfl) hb5 .bool) <| Am rfl rfl <| Ap rfl rfl <| Ap rfl rfl <| Ap rfl rfl <| Ap rfl rfl <| Ao rfl (.pickF (.t rfl) rfl .bool) <| Am rfl rfl <| Ap rfl rfl <| Ap rfl rfl <| Ap rfl rfl <| Ap rfl rfl ?_
   refine Ao rfl (.pickF (.t rfl) rfl .bool) <| Ag rfl rfl <| WL.ns ?_
   cases hm
   exact W.ret1 () rfl (.t rfl) trivial
 ·refine Ap rfl hb3 <| Ao rfl (.pickF (.t rfl) hb3 .bool) <| Am rfl rfl <| Ap rfl rfl <| Ap rfl rfl <| Ap rfl rfl <| Ap rfl rfl <| Ao rfl (.pickF (.t rfl) rfl .bool) <| Am rfl rfl <| Ap rfl rfl <| Ap rfl rfl <| Ap rfl rfl <| Ap rfl rfl <| Ao rfl (.pickF (.t rfl) rfl .bool) <| Am rfl rfl <| Ap rfl rfl ?_
  refine Ap rfl rfl <| Ap rfl rfl <| Ap rfl rfl <| Ao rfl (.pickF (.t rfl) rfl .bool) <| Ag rfl rfl <| WL.ns ?_
  cases hm
  exact W.ret1 () rfl (.t rfl) trivial

theorem r47_Digits_spec (n : Nat) (n0_ : Int) (r : Str) (hm : M.r47_Digits n n0_ = some r) : FSpec Tryd.prog 71 [(I6.is n0_)] (tS.is r) := by
 unfold M.r47_Digits at hm
 refine FSpec.of Tryd.func71 rfl rfl rfl fun g0 => Aw <| Ao rfl (.assign (.str rfl (by decide))) <| An <| W.seq <| Aw <| Am rfl rfl <| Ao rfl (.ltI (.t rfl) .i64) <| An <| W.cD hm (.t rfl) (fun hp2 hm => ?_) (fun hp2 hm => ?_)
 ·refine Aw <| Ao rfl (.assign (.str rfl (by decide))) <| An <| W.seq <| W.block ?_
  obtain ⟨s3, hs4, hk5⟩ := Bs hm
  clear hm
  refine W.loop (fun m (s : Int × Str) => M.r47_Digits_loop1 m s.1 s.2 = some s3) (fun s => [(0, (I6.is s.1)), (3, (tS.is s.2))]) (fun s => []) _ (n0_, ([] : Str)) hs4 ⟨.q rfl, .q rfl, trivial⟩ trivial ?_
  rintro n6 ⟨n0_1, s0_⟩ hm
  try dsimp only at hm
  change W _ _ _ _ _ _ _ [(0, (I6.is n0_1)), (3, (tS.is s0_))] []
  cases n6 with
  | zero => rw [M.r47_Digits_loop1.eq_1] at hm; cases hm
  | succ n6 =>
   rw [M.r47_Digits_loop1.eq_2] at hm
   refine W.seq <| Aw <| Am rfl rfl <| Ao rfl (.ltI (.t rfl) .i64) <| An <| W.cD hm (.t rfl) (fun hp8 hm => ?_) (fun hp8 hm => ?_)
   ·refine W.skip <| Aq <| W.block <| Aw <| WL.mv rfl rfl ?_
    obtain ⟨v, hv9, hm⟩ := Bs hm
    refine Ao rfl (.remC hv9 (.t rfl) .i64) ?_
    obtain ⟨v1, hv10, hm⟩ := Bs hm
    refine Ao rfl (.subC hv10 .i64 (.t rfl)) <| Ao rfl (.convTo8 U3 U5 (.t rfl)) <| Ao rfl (.buildSlice (n := 1) (ys := [(0, wrap8 v1)]) (z := (0 : Int)) (xs := [wrap8 v1]) U72 el5 ze5 ⟨rfl, (.t rfl), trivial⟩ (by simp) (by decide) rfl) <| Ao rfl (.strB U72 U9 U5 (.t rfl)) <| WL.mv rfl rfl ?_
    obtain ⟨v2, hv11, hm⟩ := Bs hm
    refine Ao rfl (.catC hv11 (.t rfl) (.t rfl)) <| Ag rfl rfl <| WL.nr1 <| WL.mv rfl rfl ?_
    obtain ⟨v3, hv12, hm⟩ := Bs hm
    exact Ao rfl (.quoC hv12 (.t rfl) .i64) <| Ag rfl rfl <| WL.nil <| WN.block <| WN.again n6 (v3, v2) (Nat.lt_succ_self n6) hm ⟨.q rfl, .q rfl, trivial⟩ trivial
   ·refine W.exit rfl ?_
    have hr13 := Si hm
    clear hm
    subst hr13
    have hm := hk5
    try dsimp only at hm
    refine Aq <| Aw <| WL.mv rfl rfl ?_
    obtain ⟨v4, hv14, hm⟩ := Bs hm
    refine Ao rfl (.remC hv14 (.t rfl) .i64) ?_
    obtain ⟨v5, hv15, hm⟩ := Bs hm
    refine Ao rfl (.subC hv15 .i64 (.t rfl)) <| Ao rfl (.convTo8 U3 U5 (.t rfl)) <| Ao rfl (.buildSlice (n := 1) (ys := [(0, wrap8 v5)]) (z := (0 : Int)) (xs := [wrap8 v5]) U72 el5 ze5 ⟨rfl, (.t rfl), trivial⟩ (by simp) (by decide) rfl) <| Ao rfl (.strB U72 U9 U5 (.t rfl)) ?_
    obtain ⟨v6, hv16, hm⟩ := Bs hm
    refine Ao rfl (.catC hv16 (.str rfl (by decide)) (.t rfl)) <| WL.mv rfl rfl ?_
    obtain ⟨v7, hv17, hm⟩ := Bs hm
    refine Ao rfl (.catC hv17 (.t rfl) (.t rfl)) <| Ag rfl rfl <| WL.ns ?_
    cases hm
    exact W.ret1 () rfl (.t rfl) trivial
 ·refine W.skip <| Aq <| Aw <| WL.mv rfl rfl ?_
  obtain ⟨v8, hv18, hm⟩ := Bs hm
  refine Ao rfl (.remC hv18 (.t rfl) .i64) ?_
  obtain ⟨v9, hv19, hm⟩ := Bs hm
  refine Ao rfl (.addC hv19 .i64 (.t rfl)) <| Ao rfl (.convTo8 U3 U5 (.t rfl)) <| Ao rfl (.buildSlice (n := 1) (ys := [(0, wrap8 v9)]) (z := (0 : Int)) (xs := [wrap8 v9]) U72 el5 ze5 ⟨rfl, (.t rfl), trivial⟩ (by simp) (by decide) rfl) <| Ao rfl (.strB U72 U9 U5 (.t rfl)) <| Ag rfl rfl <| An <| W.seq <| W.block ?_
  obtain ⟨s20, hs21, hk22⟩ := Bs hm
  clear hm
  refine W.loop (fun m (s : Int × Str) => M.r47_Digits_loop2 m s.1 s.2 = some s20) (fun s => [(0, (I6.is s.1)), (4, (tS.is s.2))]) (fun s => []) _ (n0_, strOf [wrap8 v9]) hs21 ⟨.q rfl, .q rfl, trivial⟩ trivial ?_
  rintro n23 ⟨n0_2, s0_1⟩ hm
  try dsimp only at hm
  change W _ _ _ _ _ _ _ [(0, (I6.is n0_2)), (4, (tS.is s0_1))] []
  cases n23 with
  | zero => rw [M.r47_Digits_loop2.eq_1] at hm; cases hm
  | succ n23 =>
   rw [M.r47_Digits_loop2.eq_2] at hm
   refine W.seq <| Aw <| Am rfl rfl <| Ao rfl (.gtI (.t rfl) .i64) <| An <| W.cD hm (.t rfl) (fun hp25 hm => ?_) (fun hp25 hm => ?_)
   ·refine W.skip <| Aq <| W.block <| Aw <| WL.mv rfl rfl ?_
    obtain ⟨v10, hv26, hm⟩ := Bs hm
    refine Ao rfl (.quoC hv26 (.t rfl) .i64) <| Ag rfl rfl <| WL.nr1 <| WL.mv rfl rfl ?_
    obtain ⟨v11, hv27, hm⟩ := Bs hm
    refine Ao rfl (.remC hv27 (.t rfl) .i64) ?_
    obtain ⟨v12, hv28, hm⟩ := Bs hm
    refine Ao rfl (.addC hv28 .i64 (.t rfl)) <| Ao rfl (.convTo8 U3 U5 (.t rfl)) <| Ao rfl (.buildSlice (n := 1) (ys := [(0, wrap8 v12)]) (z := (0 : Int)) (xs := [wrap8 v12]) U72 el5 ze5 ⟨rfl, (.t rfl), trivial⟩ (by simp) (by decide) rfl) <| Ao rfl (.strB U72 U9 U5 (.t rfl)) <| WL.mv rfl rfl ?_
    obtain ⟨v13, hv29, hm⟩ := Bs hm
    exact Ao rfl (.catC hv29 (.t rfl) (.t rfl)) <| Ag rfl rfl <| WL.nil <| WN.block <| WN.again n23 (v10, v13) (Nat.lt_succ_self n23) hm ⟨.q rfl, .q rfl, trivial⟩ trivial
   ·refine W.exit rfl ?_
    have hr30 := Si hm
    clear hm
    subst hr30
    have hm := hk22
    try dsimp only at hm
    refine Aq <| Aw <| Am rfl rfl <| Ag rfl rfl <| WL.ns ?_
    cases hm
    exact W.ret1 () rfl (.t rfl) trivial

theorem r47_id_spec (n : Nat) (x : api_Id) (r : Str) (hm : M.r47_id n x = some r) : FSpec Tryd.prog 61 [(tapi_Id.is x)] (tS.is r) := by
 unfold M.r47_id at hm
 refine FSpec.of Tryd.func61 rfl rfl rfl fun g0 => Aw <| Ao rfl (.box (.t rfl)) <| Ao rfl (.assign (.str rfl (by decide))) <| An <| W.seq ?_
 obtain ⟨digits, hv1, hm⟩ := Bs hm
 obtain ⟨v, hv2, hm⟩ := Bs hm
 obtain ⟨digits1, hv3, hm⟩ := Bs hm
 obtain ⟨v1, hv4, hm⟩ := Bs hm
 obtain ⟨v2, hv5, hm⟩ := Bs hm
 obtain ⟨digits2, hv6, hm⟩ := Bs hm
 obtain ⟨v3, hv7, hm⟩ := Bs hm
 refine W.draw [.c _, .c _, .c _, .c _, .c _, .c _, .c _, .c _, .c _, .c _, .c _, .c _, .c _, .c _] [([], [1]), ([0], []), ([1], []), ([2], []), ([], [1]), ([4], []), ([5], []), ([3, 6], []), ([7], []), ([], [1]), ([9], []), ([10], []), ([8, 11], []), ([12], [])] Mx rfl rfl rfl rfl ⟨Dn (.fieldAddr U24 rfl J3 fapi_Id_0 (.t rfl)), Dn (.load ty3 (.t rfl)), Dn (.call C71 (r47_Digits_spec _ _ _ hv1) ⟨(.t rfl), trivial⟩), Dn (.catC hv2 (.t rfl) (.str rfl (by decide))), Dn (.fieldAddr U24 rfl J3 fapi_Id_1 (.t rfl)), Dn (.load ty3 (.t rfl)), Dn (.call C71 (r47_Digits_spec _ _ _ hv3) ⟨(.t rfl), trivial⟩), Dn (.catC hv4 (.t rfl) (.t rfl)), Dn (.catC hv5 (.t rfl) (.str rfl (by decide))), Dn (.fieldAddr U24 rfl J3 fapi_Id_2 (.t rfl)), Dn (.load ty3 (.t rfl)), Dn (.call C71 (r47_Digits_spec _ _ _ hv6) ⟨(.t rfl), trivial⟩), Dn (.catC hv7 (.t rfl) (.t rfl)), Dn (.assign (.t rfl)), trivial⟩ <| WN.seq ?_
 cases hm
 exact W.ret1 () rfl (.t rfl) trivial

theorem r47_Line_spec (n : Nat) (d : api_Destination) (r : Str) (hm : M.r47_Line n d = some r) : FSpec Tryd.prog 43 [(tapi_Destination.is d)] (tS.is r) := by
 unfold M.r47_Line at hm
 refine FSpec.of Tryd.func43 rfl rfl rfl fun g0 => Aw <| Ao rfl (.box (.t rfl)) <| Ao rfl (.assign (.str rfl (by decide))) <| An <| W.seq ?_
 obtain ⟨id, hv1, hm⟩ := Bs hm
 obtain ⟨v, hv2, hm⟩ := Bs hm
 obtain ⟨id1, hv3, hm⟩ := Bs hm
 obtain ⟨v1, hv4, hm⟩ := Bs hm
 refine W.draw [.c _, .c _, .c _, .c _, .c _, .c _, .c _, .c _, .c _] [([], [1]), ([0], []), ([1], []), ([2], []), ([], [1]), ([4], []), ([5], []), ([3, 6], []), ([7], [])] Mx rfl rfl rfl rfl ⟨Dn (.fieldAddr U36 rfl J24 fapi_Destination_0 (.t rfl)), Dn (.load ty24 (.t rfl)), Dn (.call C61 (r47_id_spec _ _ _ hv1) ⟨(.t rfl), trivial⟩), Dn (.catC hv2 (.t rfl) (.str rfl (by decide))), Dn (.fieldAddr U36 rfl J24 fapi_Destination_1 (.t rfl)), Dn (.load ty24 (.t rfl)), Dn (.call C61 (r47_id_spec _ _ _ hv3) ⟨(.t rfl), trivial⟩), Dn (.catC hv4 (.t rfl) (.t rfl)), Dn (.assign (.t rfl)), trivial⟩ <| WN.seq ?_
 cases hm
 exact W.ret1 () rfl (.t rfl) trivial

theorem r47_Text_spec (n : Nat) (l : List api_Destination) (r : Str) (hm : M.r47_Text n l = some r) : FSpec Tryd.prog 28 [((tL tapi_Destination).is l)] (tS.is r) := by
 unfold M.r47_Text at hm
 refine FSpec.of Tryd.func28 rfl rfl rfl fun g0 => Aw <| Ao rfl (.assign (.str rfl (by decide))) <| Ar <| Ao rfl (.assign (.str rfl (by decide))) <| An <| W.seq <| Aw <| Ao rfl (.assign .i64) <| An <| W.block ?_
 obtain ⟨s1, hs2, hk3⟩ := Bs hm
 clear hm
 refine W.loop (fun m (s : Str × Int) => M.r47_Text_loop1 l m s.1 s.2 = some s1) (fun s => [(3, (tS.is s.1)), (4, (I6.is s.2)), (0, ((tL tapi_Destination).is l))]) (fun s => []) _ (([] : Str), (0 : Int)) hs2 ⟨.q rfl, .q rfl, .q rfl, trivial⟩ trivial ?_
 rintro n4 ⟨s0_, i⟩ hm
 try dsimp only at hm
 change W _ _ _ _ _ _ _ [(3, (tS.is s0_)), (4, (I6.is i)), (0, ((tL tapi_Destination).is l))] []
 cases n4 with
 | zero => rw [M.r47_Text_loop1.eq_1] at hm; cases hm
 | succ n4 =>
  rw [M.r47_Text_loop1.eq_2] at hm
  refine W.seq <| Aw <| Am rfl rfl <| Am rfl rfl <| Ao rfl (.lenL U22 (.t rfl)) <| Ao rfl (.ltI (.t rfl) (.t rfl)) <| An <| W.cD hm (.t rfl) (fun hp6 hm => ?_) (fun hp6 hm => ?_)
  ·refine W.skip <| Aq <| W.seq <| W.block <| W.region <| Am rfl rfl <| Am rfl rfl <| WL.mv rfl rfl ?_
   obtain ⟨v, hv7, hm⟩ := Bs hm
   refine Ao rfl (.idx hv7 U22 Z36 (.t rfl) (.t rfl)) <| Ao rfl (.load ty36 (.t rfl)) ?_
   obtain ⟨line, hv8, hm⟩ := Bs hm
   refine Ao rfl (.call C43 (r47_Line_spec _ _ _ hv8) ⟨(.t rfl), trivial⟩) ?_
   obtain ⟨v1, hv9, hm⟩ := Bs hm
   refine Ao rfl (.catC hv9 (.t rfl) (.t rfl)) ?_
   obtain ⟨v2, hv10, hm⟩ := Bs hm
   exact Ao rfl (.catC hv10 (.t rfl) (.str rfl (by decide))) <| Ag rfl rfl <| WL.nil <| WN.block <| Aq <| W.region <| Am rfl rfl <| WL.lenL (s := 0) (.t rfl) fun hl11 => Ao rfl (.addI1 (.t rfl) .i64 hp6 hl11) <| Ag rfl rfl <| WL.nil <| WN.again n4 (v2, i + 1) (Nat.lt_succ_self n4) hm ⟨.q rfl, .q rfl, .q rfl, trivial⟩ trivial
  ·refine W.exit rfl ?_
   have hr12 := Si hm
   clear hm
   subst hr12
   have hm := hk3
   try dsimp only at hm
   refine Aq <| Aw <| Am rfl rfl <| Ag rfl rfl <| WL.ns ?_
   cases hm
   exact W.ret1 () rfl (.t rfl) trivial

theorem strings_Cut_spec (s sep : Str) (r : Str × Str × Bool) (hm : cutM s sep = some r) : FSpecR Tryd.prog 37 [tS.is s, tS.is sep] [(700000, GlE 0)] (fun _ : Unit => Asn.tuple3 (tS.is r.1) (tS.is r.2.1) (tB.is r.2.2)) (fun _ => []) :=
 cut_spec (fun s sep m w hs hm => Tryd.strings_Cut s sep m w hs hm) _ s sep r hm

theorem strings_Split_spec (s sep : Str) (r : List Str) (hm : splitM s sep = some r) : FSpecR Tryd.prog 55 [tS.is s, tS.is sep] [(700000, GlE 0)] (fun _ : Unit => (tL tS).is r) (fun _ => []) :=
 split_spec (fun s sep m w hs hm h1 => Tryd.strings_Split s sep m w hs hm h1) _ s sep r hm

theorem strconv_Atoi_spec (s : Str) (r : Int × Unit) (hm : atoiM s = some r) : FSpecR Tryd.prog 56 [tS.is s] [(700001, GlI 1), (700002, GlI 2)] (fun _ : Unit => Asn.tuple2 (I6.is r.1) (tE.is r.2)) (fun _ => []) :=
 atoi_spec (fun s h v hv w => Tryd.strconv_Atoi_ok s h v hv w) (fun s h hv ev w h1 h2 => Tryd.strconv_Atoi_syntax s h hv ev w h1 h2) (fun s h hv ev w h1 h2 => Tryd.strconv_Atoi_range s h hv ev w h1 h2) _ _ s r hm

theorem destinations_read_spec (s0_ : Str) (r : api_Destination × Bool) (hm : M.destinations_read s0_ = some r) : FSpecR Tryd.prog 38 [(tS.is s0_)] [(700000, GlE 0), (700001, GlI 1), (700002, GlI 2), (700005, GlT Tryd.prog "internal/strconv.uint64pow10" .u64 Lib.pow10Tab)] (fun _ : Unit => (Asn.tuple2 (tapi_Destination.is r.1) (tB.is r.2))) (fun _ => []) := by
 unfold M.destinations_read at hm
 refine FSpecR.of Tryd.func38 rfl rfl rfl fun g0 => Aw <| WL.opR rfl (OpR.alloc 2 ze36) fun b => Ao rfl (.assign .bool) <| Ar <| WL.mv rfl rfl ?_
 obtain ⟨split, hv1, hm⟩ := Bs hm
 refine Ao rfl (.callG (rin := [(700000, GlE 0)]) C55 (strings_Split_spec _ _ _ hv1) ⟨rfl, trivial⟩ ⟨rfl, rfl, trivial⟩ ⟨(.t rfl), (.str rfl (by decide)), trivial⟩) <| Ag rfl rfl <| An <| W.seq <| Aw <| Am rfl rfl <| Ao rfl (.lenL U46 (.t rfl)) <| Ao rfl (.neI (.t rfl) .i64) <| An <| W.cD hm (.t rfl) (fun hp3 hm => ?_) (fun hp3 hm => ?_)
 ·refine Aw <| Ao rfl (.build (s := tapi_Destination) (x := (⟨zapi_Id, zapi_Id⟩ : api_Destination)) zapi_Destination_f rfl U36 (zapi_Destination_sz _ U36) ze36 rfl) <| WL.opU (OpR.storeB (b := b) 2 Z36 (Cellable.is tapi_Destination (⟨zapi_Id, zapi_Id⟩ : api_Destination)) rfl (.t rfl) (.t rfl)) fun _ => Ao rfl (.assign .bool) <| WL.ns ?_
  cases hm
  exact W.retQ2 () rfl rfl (ResAt.cell 2 Y36 Z36 rfl (.t rfl)) (ResAt.tmp (.t rfl)) trivial
 ·refine W.skip <| Aq <| Aw <| WL.opR rfl (OpR.alloc 5 ze92) fun b1 => An <| W.seq <| Aw <| Am rfl rfl <| Ao rfl (.lenL U46 (.t rfl)) <| Ao rfl (.move .i64) <| An <| W.block ?_
  obtain ⟨s4, hs5, hk6⟩ := Bs hm
  clear hm
  refine W.loop (fun m (s : Int × List Str × List Str × ((List Int))) => m = s.2.2.1.length ∧ split = s.2.1 ++ s.2.2.1 ∧ s.1 = (s.2.1.length : Int) ∧ M.destinations_read_loop1 s.2.2.1 s.1 s.2.2.2 = some s4) (fun s => [(17, (I6.is s.1)), (0, (tS.is s0_)), (2, (Bp b 0)), (5, (Bp b1 0)), (15, ((tL tS).is split)), (16, (I6.is (split.length : Int)))]) (fun s => [(5, (Bx 7 true 92 ((tA 7 I6).is s.2.2.2) b1)), (2, (Bx 6 true 36 (tapi_Destination.is zapi_Destination) b)), (700000, GlE 0), (700001, GlI 1), (700002, GlI 2), (700005, GlT Tryd.prog "internal/strconv.uint64pow10" .u64 Lib.pow10Tab)]) split.length ((0 : Int), [], split, (List.replicate 7 (0 : Int))) ⟨rfl, rfl, rfl, hs5⟩ ⟨.q rfl, .q rfl, .q rfl, .q rfl, .q rfl, .q rfl, trivial⟩ ⟨rfl, rfl, ⟨rfl, rfl, ⟨rfl, rfl, ⟨rfl, rfl, ⟨rfl, rfl, ⟨rfl, rfl, trivial⟩⟩⟩⟩⟩⟩ ?_
  rintro m ⟨i, pre, rest1, n0_⟩ ⟨hn10, hxs7, hi8, hm⟩
  try dsimp only at hn10 hxs7 hi8 hm
  change W _ _ _ _ _ _ _ [(17, (I6.is i)), (0, (tS.is s0_)), (2, (Bp b 0)), (5, (Bp b1 0)), (15, ((tL tS).is split)), (16, (I6.is (split.length : Int)))] [(5, (Bx 7 true 92 ((tA 7 I6).is n0_) b1)), (2, (Bx 6 true 36 (tapi_Destination.is zapi_Destination) b)), (700000, GlE 0), (700001, GlI 1), (700002, GlI 2), (700005, GlT Tryd.prog "internal/strconv.uint64pow10" .u64 Lib.pow10Tab)]
  refine W.lenL (s := 15) (.t rfl) fun hlen9 => Aw <| Ao rfl (.ltI (.t rfl) (.t rfl)) <| An <| W.seq <| W.cond (.t rfl) (fun hc12 => ?_) (fun hc12 => ?_)
  ·have hp13 := of_decide_eq_true hc12
   obtain ⟨e, es, hrest15⟩ := range_more hxs7 hi8 hp13
   subst hrest15
   rw [M.destinations_read_loop1.eq_2] at hm
   refine W.skip <| Aq <| W.seq <| W.block <| Aw <| Am rfl rfl <| Ao rfl (.idxPre hxs7 hi8 U46 Z9 (.t rfl) (.t rfl)) <| Ao rfl (.load ty9 (.t rfl)) <| Ag rfl rfl <| Ag rfl rfl <| WL.nr1 <| Am rfl rfl <| WL.mv rfl rfl ?_
   obtain ⟨atoi, hv16, hm⟩ := Bs hm
   refine Ao rfl (.callG (rin := [(700001, GlI 1), (700002, GlI 2)]) C56 (strconv_Atoi_spec _ _ hv16) ⟨rfl, rfl, trivial⟩ ⟨rfl, rfl, ⟨rfl, rfl, trivial⟩⟩ ⟨(.t rfl), trivial⟩) <| Am rfl rfl <| Ao rfl (.extract0 (.t rfl)) <| Ao rfl (.extract1 (.t rfl)) ?_
   obtain ⟨_, hv17, hm⟩ := Bs hm
   exact Ao rfl (.indexAddrB U92 Z3 (.t rfl) (.t rfl) (rngC_in hv17)) <| WL.opU (OpR.storeBF (b := b1) 5 rfl ty3 (FldSet.arr (rngC_nat hv17)) rfl (arr_le (rngC_nat hv17)) (.t rfl) (.t rfl)) fun _ => WL.nil <| WN.block <| Aq <| W.region <| Ao rfl (.addI (.t rfl) .i64 (range_inR hi8 hp13 hlen9)) <| Am rfl rfl <| WL.nil <| WN.again es.length (i + 1, pre ++ [e], es, n0_.set i.toNat atoi.1) (range_lt hn10) ⟨rfl, range_step hxs7, range_idx hi8, hm⟩ ⟨.q rfl, .q rfl, .q rfl, .q rfl, .q rfl, .q rfl, trivial⟩ ⟨rfl, rfl, ⟨rfl, rfl, ⟨rfl, rfl, ⟨rfl, rfl, ⟨rfl, rfl, ⟨rfl, rfl, trivial⟩⟩⟩⟩⟩⟩
  ·have hrest15 := range_end hxs7 hi8 (of_decide_eq_false hc12)
   subst hrest15
   rw [M.destinations_read_loop1.eq_1] at hm
   refine W.exit rfl ?_
   have hr18 := Si hm
   clear hm
   subst hr18
   have hm := hk6
   try dsimp only at hm
   refine Aq <| W.sr ?_
   obtain ⟨_, hv19, hm⟩ := Bs hm
   refine Ao rfl (.indexAddrB U92 Z3 (.t rfl) .i64 (rngC_in hv19)) <| Ao rfl (.loadBF 5 rfl ty3 (Fld.arr (rngC_nat hv19) (0 : Int)) rfl (.t rfl)) ?_
   obtain ⟨_, hv20, hm⟩ := Bs hm
   refine Ao rfl (.indexAddrB U92 Z3 (.t rfl) .i64 (rngC_in hv20)) <| Ao rfl (.loadBF 5 rfl ty3 (Fld.arr (rngC_nat hv20) (0 : Int)) rfl (.t rfl)) ?_
   obtain ⟨_, hv21, hm⟩ := Bs hm
   refine Ao rfl (.indexAddrB U92 Z3 (.t rfl) .i64 (rngC_in hv21)) <| Ao rfl (.loadBF 5 rfl ty3 (Fld.arr (rngC_nat hv21) (0 : Int)) rfl (.t rfl)) <| Ao rfl (.build (s := tapi_Id) (x := (⟨(n0_[(0 : Int).toNat]?).getD (0 : Int), (n0_[(1 : Int).toNat]?).getD (0 : Int), (n0_[(2 : Int).toNat]?).getD (0 : Int)⟩ : api_Id)) zapi_Id_f rfl U24 (zapi_Id_sz _ U24) ze24 ⟨_, I6, ((n0_[(0 : Int).toNat]?).getD (0 : Int)), _, _, rfl, Z3, (.t rfl), sapi_Id_0, ⟨_, I6, ((n0_[(1 : Int).toNat]?).getD (0 : Int)), _, _, rfl, Z3, (.t rfl), sapi_Id_1, ⟨_, I6, ((n0_[(2 : Int).toNat]?).getD (0 : Int)), _, _, rfl, Z3, (.t rfl), sapi_Id_2, rfl⟩⟩⟩) ?_
   obtain ⟨_, hv22, hm⟩ := Bs hm
   refine Ao rfl (.indexAddrB U92 Z3 (.t rfl) .i64 (rngC_in hv22)) <| Ao rfl (.loadBF 5 rfl ty3 (Fld.arr (rngC_nat hv22) (0 : Int)) rfl (.t rfl)) ?_
   obtain ⟨_, hv23, hm⟩ := Bs hm
   refine Ao rfl (.indexAddrB U92 Z3 (.t rfl) .i64 (rngC_in hv23)) <| Ao rfl (.loadBF 5 rfl ty3 (Fld.arr (rngC_nat hv23) (0 : Int)) rfl (.t rfl)) ?_
   obtain ⟨_, hv24, hm⟩ := Bs hm
   refine Ao rfl (.indexAddrB U92 Z3 (.t rfl) .i64 (rngC_in hv24)) <| Ao rfl (.loadBF 5 rfl ty3 (Fld.arr (rngC_nat hv24) (0 : Int)) rfl (.t rfl)) <| Ao rfl (.build (s := tapi_Id) (x := (⟨(n0_[(4 : Int).toNat]?).getD (0 : Int), (n0_[(5 : Int).toNat]?).getD (0 : Int), (n0_[(6 : Int).toNat]?).getD (0 : Int)⟩ : api_Id)) zapi_Id_f rfl U24 (zapi_Id_sz _ U24) ze24 ⟨_, I6, ((n0_[(4 : Int).toNat]?).getD (0 : Int)), _, _, rfl, Z3, (.t rfl), sapi_Id_0, ⟨_, I6, ((n0_[(5 : Int).toNat]?).getD (0 : Int)), _, _, rfl, Z3, (.t rfl), sapi_Id_1, ⟨_, I6, ((n0_[(6 : Int).toNat]?).getD (0 : Int)), _, _, rfl, Z3, (.t rfl), sapi_Id_2, rfl⟩⟩⟩) <| Ao rfl (.build (s := tapi_Destination) (x := (⟨(⟨(n0_[(0 : Int).toNat]?).getD (0 : Int), (n0_[(1 : Int).toNat]?).getD (0 : Int), (n0_[(2 : Int).toNat]?).getD (0 : Int)⟩ : api_Id), (⟨(n0_[(4 : Int).toNat]?).getD (0 : Int), (n0_[(5 : Int).toNat]?).getD (0 : Int), (n0_[(6 : Int).toNat]?).getD (0 : Int)⟩ : api_Id)⟩ : api_Destination)) zapi_Destination_f rfl U36 (zapi_Destination_sz _ U36) ze36 ⟨_, tapi_Id, (⟨(n0_[(0 : Int).toNat]?).getD (0 : Int), (n0_[(1 : Int).toNat]?).getD (0 : Int), (n0_[(2 : Int).toNat]?).getD (0 : Int)⟩ : api_Id), _, _, rfl, Z24, (.t rfl), sapi_Destination_0, ⟨_, tapi_Id, (⟨(n0_[(4 : Int).toNat]?).getD (0 : Int), (n0_[(5 : Int).toNat]?).getD (0 : Int), (n0_[(6 : Int).toNat]?).getD (0 : Int)⟩ : api_Id), _, _, rfl, Z24, (.t rfl), sapi_Destination_1, rfl⟩⟩) <| WL.opR rfl (OpR.alloc 8 ze36) fun b2 => WL.opU (OpR.storeB (b := b2) 8 Z36 (Cellable.is tapi_Destination (⟨(⟨(n0_[(0 : Int).toNat]?).getD (0 : Int), (n0_[(1 : Int).toNat]?).getD (0 : Int), (n0_[(2 : Int).toNat]?).getD (0 : Int)⟩ : api_Id), (⟨(n0_[(4 : Int).toNat]?).getD (0 : Int), (n0_[(5 : Int).toNat]?).getD (0 : Int), (n0_[(6 : Int).toNat]?).getD (0 : Int)⟩ : api_Id)⟩ : api_Destination)) rfl (.t rfl) (.t rfl)) fun _ => WL.sealed (t := tapi_Destination) (u := (⟨(⟨(n0_[(0 : Int).toNat]?).getD (0 : Int), (n0_[(1 : Int).toNat]?).getD (0 : Int), (n0_[(2 : Int).toNat]?).getD (0 : Int)⟩ : api_Id), (⟨(n0_[(4 : Int).toNat]?).getD (0 : Int), (n0_[(5 : Int).toNat]?).getD (0 : Int), (n0_[(6 : Int).toNat]?).getD (0 : Int)⟩ : api_Id)⟩ : api_Destination)) 8 8 rfl rfl <| An <| W.seq ?_
   obtain ⟨line, hv25, hm⟩ := Bs hm
   refine W.weakR (res' := [(5, (Bx 7 true 92 ((tA 7 I6).is n0_) b1)), (2, (Bx 6 true 36 (tapi_Destination.is zapi_Destination) b)), (700000, GlE 0), (700001, GlI 1), (700002, GlI 2), (700005, GlT Tryd.prog "internal/strconv.uint64pow10" .u64 Lib.pow10Tab)]) ⟨rfl, rfl, ⟨rfl, rfl, ⟨rfl, rfl, ⟨rfl, rfl, ⟨rfl, rfl, ⟨rfl, rfl, trivial⟩⟩⟩⟩⟩⟩ <| W.drawM [.c (tapi_Destination.is (⟨(⟨(n0_[(0 : Int).toNat]?).getD (0 : Int), (n0_[(1 : Int).toNat]?).getD (0 : Int), (n0_[(2 : Int).toNat]?).getD (0 : Int)⟩ : api_Id), (⟨(n0_[(4 : Int).toNat]?).getD (0 : Int), (n0_[(5 : Int).toNat]?).getD (0 : Int), (n0_[(6 : Int).toNat]?).getD (0 : Int)⟩ : api_Id)⟩ : api_Destination)), .c (tapi_Destination.is (⟨(⟨(n0_[(0 : Int).toNat]?).getD (0 : Int), (n0_[(1 : Int).toNat]?).getD (0 : Int), (n0_[(2 : Int).toNat]?).getD (0 : Int)⟩ : api_Id), (⟨(n0_[(4 : Int).toNat]?).getD (0 : Int), (n0_[(5 : Int).toNat]?).getD (0 : Int), (n0_[(6 : Int).toNat]?).getD (0 : Int)⟩ : api_Id)⟩ : api_Destination)), .c (tS.is line), .c (tS.is s0_), .c (tB.is (line == s0_)), .c Asn.any, .c (tB.is (line == s0_))] [([], [8]), ([], [8]), ([1], []), ([], [0]), ([2, 3], []), ([0], [2]), ([4], [])] [5] [[], [], [], [], [], [], []] (fun m cv => match m with | 0 => [(5, (Bx 7 true 92 ((tA 7 I6).is n0_) b1)), (2, (Bx 6 true 36 (tapi_Destination.is zapi_Destination) b)), (700000, GlE 0), (700001, GlI 1), (700002, GlI 2), (700005, GlT Tryd.prog "internal/strconv.uint64pow10" .u64 Lib.pow10Tab)] | _ => [(2, (Bx 6 true 36 (tapi_Destination.is (⟨(⟨(n0_[(0 : Int).toNat]?).getD (0 : Int), (n0_[(1 : Int).toNat]?).getD (0 : Int), (n0_[(2 : Int).toNat]?).getD (0 : Int)⟩ : api_Id), (⟨(n0_[(4 : Int).toNat]?).getD (0 : Int), (n0_[(5 : Int).toNat]?).getD (0 : Int), (n0_[(6 : Int).toNat]?).getD (0 : Int)⟩ : api_Id)⟩ : api_Destination)) b)), (5, (Bx 7 true 92 ((tA 7 I6).is n0_) b1)), (700000, GlE 0), (700001, GlI 1), (700002, GlI 2), (700005, GlT Tryd.prog "internal/strconv.uint64pow10" .u64 Lib.pow10Tab)]) (fun _ => none) Mx rfl rfl rfl rfl rfl ⟨fun _ _ _ _ => rfl, ⟨fun _ _ _ _ => rfl, ⟨fun _ _ _ _ => rfl, ⟨fun _ _ _ _ => rfl, ⟨fun _ _ _ _ => rfl, ⟨fun _ _ _ _ => rfl, ⟨fun _ _ _ _ => rfl, trivial⟩⟩⟩⟩⟩⟩⟩ rfl ⟨mo fun cv => Op1.load ty36 (.t rfl), ⟨mo fun cv => Op1.load ty36 (.t rfl), ⟨.inr ⟨fun cv => [(700005, GlT Tryd.prog "internal/strconv.uint64pow10" .u64 Lib.pow10Tab)], (AllUpTo.at ⟨(fun _ _ => ⟨rfl, rfl, trivial⟩), (fun hw => absurd hw (by decide))⟩), fun cv => Op1.callG (rin := [(700005, GlT Tryd.prog "internal/strconv.uint64pow10" .u64 Lib.pow10Tab)]) C41 (destinations_line_spec _ _ hv25) ⟨rfl, trivial⟩ ⟨rfl, rfl, trivial⟩ ⟨(.t rfl), trivial⟩⟩, ⟨mo fun cv => Op1.move (.t rfl), ⟨mo fun cv => Op1.eqS (.t rfl) (.t rfl), ⟨.inl rfl, ⟨mo fun cv => Op1.assign (.t rfl), trivial⟩⟩⟩⟩⟩⟩⟩ ⟨⟨_, _, _, [2], (fun cv => [(2, (Bx 6 true 36 (tapi_Destination.is (⟨(⟨(n0_[(0 : Int).toNat]?).getD (0 : Int), (n0_[(1 : Int).toNat]?).getD (0 : Int), (n0_[(2 : Int).toNat]?).getD (0 : Int)⟩ : api_Id), (⟨(n0_[(4 : Int).toNat]?).getD (0 : Int), (n0_[(5 : Int).toNat]?).getD (0 : Int), (n0_[(6 : Int).toNat]?).getD (0 : Int)⟩ : api_Id)⟩ : api_Destination)) b))]), rfl, rfl, rfl, rfl, fun _ => rfl, fun _ _ => rfl, fun cv => OpR.viaU (OpR.storeB (b := b) 2 Z36 (Cellable.is tapi_Destination (⟨(⟨(n0_[(0 : Int).toNat]?).getD (0 : Int), (n0_[(1 : Int).toNat]?).getD (0 : Int), (n0_[(2 : Int).toNat]?).getD (0 : Int)⟩ : api_Id), (⟨(n0_[(4 : Int).toNat]?).getD (0 : Int), (n0_[(5 : Int).toNat]?).getD (0 : Int), (n0_[(6 : Int).toNat]?).getD (0 : Int)⟩ : api_Id)⟩ : api_Destination)) rfl (.t rfl) (.t rfl))⟩, trivial⟩ fun cv => WN.seq ?_
   cases hm
   exact W.retQ2 () rfl rfl (ResAt.cell 2 Y36 Z36 rfl (.t rfl)) (ResAt.tmp (.t rfl)) trivial

theorem destinations_Parse_spec (n : Nat) (s0_ : Str) (r : (List api_Destination) × Int × Int) (hm : M.destinations_Parse n s0_ = some r) : FSpecR Tryd.prog 25 [(tS.is s0_)] [(700000, GlE 0), (700001, GlI 1), (700002, GlI 2), (700005, GlT Tryd.prog "internal/strconv.uint64pow10" .u64 Lib.pow10Tab)] (fun _ : Unit => (Asn.tuple3 ((tL tapi_Destination).is r.1) (I6.is r.2.1) (I6.is r.2.2))) (fun _ => []) := by
 unfold M.destinations_Parse at hm
 refine FSpecR.of Tryd.func25 rfl rfl rfl fun g0 => Aw <| Ao rfl (.assign (.nil (t := tapi_Destination))) <| Ao rfl (.assign .i64) <| Ao rfl (.assign .i64) <| Ar <| WL.addNil (t := tapi_Destination) (E := 36) 5 <| Ao rfl (.assign (Opd.nilO (t := tapi_Destination))) <| An <| W.seq <| W.block ?_
 obtain ⟨s1, hs2, hk3⟩ := Bs hm
 clear hm
 refine W.loop (fun m (s : (Str × (List api_Destination)) × Tok) => M.destinations_Parse_loop1 m s.1.1 s.1.2 = some s1) (fun s => [(0, (tS.is s.1.1)), (5, (tO tapi_Destination s.2 s.1.2))]) (fun s => [(5, Dec.Own tapi_Destination 36 s.2 s.1.2.length), (700000, GlE 0), (700001, GlI 1), (700002, GlI 2), (700005, GlT Tryd.prog "internal/strconv.uint64pow10" .u64 Lib.pow10Tab)]) _ ((s0_, ([] : List api_Destination)), (none : Tok)) hs2 ⟨.q rfl, .q rfl, trivial⟩ ⟨rfl, rfl, ⟨rfl, rfl, ⟨rfl, rfl, ⟨rfl, rfl, ⟨rfl, rfl, trivial⟩⟩⟩⟩⟩ ?_
 rintro n4 ⟨⟨s0_1, out⟩, k⟩ hm
 try dsimp only at hm
 change W _ _ _ _ _ _ _ [(0, (tS.is s0_1)), (5, (tO tapi_Destination k out))] [(5, Dec.Own tapi_Destination 36 k out.length), (700000, GlE 0), (700001, GlI 1), (700002, GlI 2), (700005, GlT Tryd.prog "internal/strconv.uint64pow10" .u64 Lib.pow10Tab)]
 cases n4 with
 | zero => rw [M.destinations_Parse_loop1.eq_1] at hm; cases hm
 | succ n4 =>
  rw [M.destinations_Parse_loop1.eq_2] at hm
  refine W.seq <| Aw <| Am rfl rfl <| Ao rfl (.neS (.t rfl) (.str rfl (by decide))) <| An <| W.cB hm (.t rfl) (fun hp6 hm => ?_) (fun hp6 hm => ?_)
  ·refine W.skip <| Aq <| W.block <| Aw <| WL.mv rfl rfl ?_
   obtain ⟨cut, hv7, hm⟩ := Bs hm
   refine Ao rfl (.callG (rin := [(700000, GlE 0)]) C37 (strings_Cut_spec _ _ _ hv7) ⟨rfl, trivial⟩ ⟨rfl, rfl, trivial⟩ ⟨(.t rfl), (.str rfl (by decide)), trivial⟩) <| Am rfl rfl <| Ao rfl (.extract30 (.t rfl)) <| Ao rfl (.extract31 (.t rfl)) <| Ao rfl (.extract32 (.t rfl)) <| Ag rfl rfl <| Ag rfl rfl <| Ag rfl rfl <| Ar <| WL.mv rfl rfl ?_
   obtain ⟨read, hv8, hm⟩ := Bs hm
   refine Ao rfl (.callG (rin := [(700000, GlE 0), (700001, GlI 1), (700002, GlI 2), (700005, GlT Tryd.prog "internal/strconv.uint64pow10" .u64 Lib.pow10Tab)]) C38 (destinations_read_spec _ _ hv8) ⟨rfl, rfl, rfl, rfl, trivial⟩ ⟨rfl, rfl, ⟨rfl, rfl, ⟨rfl, rfl, ⟨rfl, rfl, trivial⟩⟩⟩⟩ ⟨(.t rfl), trivial⟩) <| Am rfl rfl <| Ao rfl (.extract0 (.t rfl)) <| Ao rfl (.extract1 (.t rfl)) <| WL.opR rfl (OpR.alloc 9 ze36) fun b => WL.opU (OpR.storeB (b := b) 9 Z36 (Cellable.is tapi_Destination read.1) rfl (.t rfl) (.t rfl)) fun _ => WL.sealed (t := tapi_Destination) (u := read.1) 9 9 rfl rfl <| Ag rfl rfl <| An <| W.seq ?_
   obtain ⟨s9, hs10, hk11⟩ := Bs hm
   clear hm
   refine W.join (fun s : Bool => s = s9) (fun s => [(33, (tB.is s)), (5, (tO tapi_Destination k out)), (7, (tS.is cut.2.1)), (9, (tapi_Destination.ptr read.1))]) (fun s => [(5, Dec.Own tapi_Destination 36 k out.length), (700000, GlE 0), (700001, GlI 1), (700002, GlI 2), (700005, GlT Tryd.prog "internal/strconv.uint64pow10" .u64 Lib.pow10Tab)]) ?_ ?_
   ·rintro v hj32
    try dsimp only at hj32
    subst hj32
    have hm := hk11
    clear hk11
    try dsimp only at hm
    change W _ _ _ _ _ _ _ [(33, (tB.is v)), (5, (tO tapi_Destination k out)), (7, (tS.is cut.2.1)), (9, (tapi_Destination.ptr read.1))] [(5, Dec.Own tapi_Destination 36 k out.length), (700000, GlE 0), (700001, GlI 1), (700002, GlI 2), (700005, GlT Tryd.prog "internal/strconv.uint64pow10" .u64 Lib.pow10Tab)]
    refine W.cB hm (.t rfl) (fun hp15 hm => ?_) (fun hp15 hm => ?_)
    ·refine Aw <| Am rfl rfl <| Ao rfl (.lenL U22 (Opd.own (.t rfl))) <| Ao rfl (.assign (.nil (t := tapi_Destination))) <| Ag rfl rfl <| Ao rfl (.assign .i64) <| WL.ns ?_
     have hr16 := Si hm
     clear hm
     subst hr16
     have hm := hk3
     try dsimp only at hm
     cases hm
     exact W.ret3 () rfl rfl (.t rfl) (.t rfl) (.t rfl) trivial
    ·refine W.skip <| Aq <| Aw <| Ao rfl (.fieldAddr U36 rfl J24 fapi_Destination_0 (.t rfl)) <| Ao rfl (.load ty24 (.t rfl)) <| WL.mv rfl rfl ?_
     obtain ⟨to, hv17, hm⟩ := Bs hm
     refine Ao rfl (.call C11 (destinations_To_spec _ _ _ _ hv17) ⟨(.t rfl), (Opd.own (.t rfl)), trivial⟩) <| Am rfl rfl <| Ao rfl (.extract0 (.t rfl)) <| Ao rfl (.extract1 (.t rfl)) <| WL.opR rfl (OpR.alloc 11 ze24) fun b1 => WL.opU (OpR.storeB (b := b1) 11 Z24 (Cellable.is tapi_Id to.1) rfl (.t rfl) (.t rfl)) fun _ => WL.sealed (t := tapi_Id) (u := to.1) 11 11 rfl rfl <| Ag rfl rfl <| Ar <| Ao rfl (.fieldAddr U36 rfl J24 fapi_Destination_1 (.t rfl)) <| Ao rfl (.load ty24 (.t rfl)) <| WL.mv rfl rfl ?_
     obtain ⟨from0_, hv18, hm⟩ := Bs hm
     refine Ao rfl (.call C12 (destinations_From_spec _ _ _ _ hv18) ⟨(.t rfl), (Opd.own (.t rfl)), trivial⟩) <| Am rfl rfl <| Ao rfl (.extract0 (.t rfl)) <| Ao rfl (.extract1 (.t rfl)) <| WL.opR rfl (OpR.alloc 13 ze24) fun b2 => WL.opU (OpR.storeB (b := b2) 13 Z24 (Cellable.is tapi_Id from0_.1) rfl (.t rfl) (.t rfl)) fun _ => WL.sealed (t := tapi_Id) (u := from0_.1) 13 13 rfl rfl <| Ag rfl rfl <| An <| W.seq ?_
     obtain ⟨s19, hs20, hk21⟩ := Bs hm
     clear hm
     refine W.join (fun s : Bool => s = s19) (fun s => [(53, (tB.is s)), (5, (tO tapi_Destination k out)), (7, (tS.is cut.2.1)), (9, (tapi_Destination.ptr read.1))]) (fun s => [(5, Dec.Own tapi_Destination 36 k out.length), (700000, GlE 0), (700001, GlI 1), (700002, GlI 2), (700005, GlT Tryd.prog "internal/strconv.uint64pow10" .u64 Lib.pow10Tab)]) ?_ ?_
     ·rintro v1 hj31
      try dsimp only at hj31
      subst hj31
      have hm := hk21
      clear hk21
      try dsimp only at hm
      change W _ _ _ _ _ _ _ [(53, (tB.is v1)), (5, (tO tapi_Destination k out)), (7, (tS.is cut.2.1)), (9, (tapi_Destination.ptr read.1))] [(5, Dec.Own tapi_Destination 36 k out.length), (700000, GlE 0), (700001, GlI 1), (700002, GlI 2), (700005, GlT Tryd.prog "internal/strconv.uint64pow10" .u64 Lib.pow10Tab)]
      refine W.cB hm (.t rfl) (fun hp25 hm => ?_) (fun hp25 hm => ?_)
      ·refine Aw <| Am rfl rfl <| Ao rfl (.lenL U22 (Opd.own (.t rfl))) <| Ao rfl (.assign (.nil (t := tapi_Destination))) <| Ag rfl rfl <| Ao rfl (.assign .i64) <| WL.ns ?_
       have hr26 := Si hm
       clear hm
       subst hr26
       have hm := hk3
       try dsimp only at hm
       cases hm
       exact W.ret3 () rfl rfl (.t rfl) (.t rfl) (.t rfl) trivial
      ·refine W.skip <| Aq <| W.seq <| Aw <| Am rfl rfl <| Ao rfl (.lenL U22 (Opd.own (.t rfl))) <| Ao rfl (.geI (.t rfl) .i64) <| An <| W.cD hm (.t rfl) (fun hp28 hm => ?_) (fun hp28 hm => ?_)
       ·refine Aw <| Am rfl rfl <| Ao rfl (.lenL U22 (Opd.own (.t rfl))) <| Ao rfl (.assign (.nil (t := tapi_Destination))) <| Ag rfl rfl <| Ao rfl (.assign .i64) <| WL.ns ?_
        have hr29 := Si hm
        clear hm
        subst hr29
        have hm := hk3
        try dsimp only at hm
        cases hm
        exact W.ret3 () rfl rfl (.t rfl) (.t rfl) (.t rfl) trivial
       ·refine W.skip <| Aq <| Aw <| Am rfl rfl <| Ao rfl (.load ty36 (.t rfl)) <| Ao rfl (.buildSlice (n := 1) (ys := [(0, read.1)]) (z := zapi_Destination) (xs := [read.1]) U22 el36 ze36 ⟨rfl, (.t rfl), trivial⟩ (by simp) (by decide) rfl) ?_
        obtain ⟨out1, hv30, hm⟩ := Bs hm
        exact WL.opR rfl (OpR.appC (key := 5) hv30 U22 el36 (.t rfl) (.t rfl) rfl) fun k1 => Ag rfl rfl <| WL.nr1 <| Am rfl rfl <| Ag rfl rfl <| WL.nil <| WN.block <| WN.again n4 ((cut.2.1, out1), k1) (Nat.lt_succ_self n4) hm ⟨.q rfl, .q rfl, trivial⟩ ⟨rfl, rfl, ⟨rfl, rfl, ⟨rfl, rfl, ⟨rfl, rfl, ⟨rfl, rfl, trivial⟩⟩⟩⟩⟩
     ·have hm := hs20
      clear hs20
      refine W.region <| Am rfl rfl <| WL.mv rfl rfl ?_
      rcases iteB hm with ⟨hp23, hb22, hm⟩ | ⟨hp23, hb22, hm⟩
      ·exact Ap rfl hb22 <| Ao rfl (.pickT (.t rfl) hb22 .bool) <| WL.nil <| WN.meet true (Si hm) ⟨.q rfl, .q rfl, .q rfl, .q rfl, trivial⟩ ⟨rfl, rfl, ⟨rfl, rfl, ⟨rfl, rfl, ⟨rfl, rfl, ⟨rfl, rfl, trivial⟩⟩⟩⟩⟩
      ·exact Ax rfl hb22 (.move (.t rfl)) <| Ao rfl (.pickF (.t rfl) hb22 (.t rfl)) <| WL.nil <| WN.meet from0_.2 (Si hm) ⟨.q rfl, .q rfl, .q rfl, .q rfl, trivial⟩ ⟨rfl, rfl, ⟨rfl, rfl, ⟨rfl, rfl, ⟨rfl, rfl, ⟨rfl, rfl, trivial⟩⟩⟩⟩⟩
   ·have hm := hs10
    clear hs10
    refine W.region <| Am rfl rfl <| Ao rfl (.notB (.t rfl)) <| WL.mv rfl rfl ?_
    rcases iteR hm with ⟨hp13, hb12, hm⟩ | ⟨hp13, hb12, hm⟩
    ·exact Ap rfl hb12 <| Ap rfl hb12 <| Ao rfl (.pickT (.t rfl) hb12 .bool) <| WL.nil <| WN.meet true (Si hm) ⟨.q rfl, .q rfl, .q rfl, .q rfl, trivial⟩ ⟨rfl, rfl, ⟨rfl, rfl, ⟨rfl, rfl, ⟨rfl, rfl, ⟨rfl, rfl, trivial⟩⟩⟩⟩⟩
    ·exact Ax rfl hb12 (.move (.t rfl)) <| Ax rfl hb12 (.notB (.t rfl)) <| Ao rfl (.pickF (.t rfl) hb12 (.t rfl)) <| WL.nil <| WN.meet (!read.2) (Si hm) ⟨.q rfl, .q rfl, .q rfl, .q rfl, trivial⟩ ⟨rfl, rfl, ⟨rfl, rfl, ⟨rfl, rfl, ⟨rfl, rfl, ⟨rfl, rfl, trivial⟩⟩⟩⟩⟩
  ·refine W.exit rfl ?_
   have hr33 := Si hm
   clear hm
   subst hr33
   have hm := hk3
   try dsimp only at hm
   refine Aq <| Aw <| Am rfl rfl <| Am rfl rfl <| Ao rfl (.lenL U22 (Opd.own (.t rfl))) <| Ag rfl rfl <| Ag rfl rfl <| Ao rfl (.assign .i64) <| WL.ns ?_
   cases hm
   exact W.ret3 () rfl rfl (Opd.own (.t rfl)) (.t rfl) (.t rfl) trivial

theorem destinations_Valid_spec (l : List api_Destination) (r : Bool) (hm : M.destinations_Valid l = some r) : FSpec Tryd.prog 15 [((tL tapi_Destination).is l)] (tB.is r) := by
 unfold M.destinations_Valid at hm
 refine FSpec.of Tryd.func15 rfl rfl rfl fun g0 => Aw <| Ao rfl (.assign .bool) <| Ar <| WL.opR rfl (OpR.makeMap tapi_Id tB 7) fun b => WL.opR rfl (OpR.makeMap tapi_Id tB 8) fun b1 => Ag rfl rfl <| Ag rfl rfl <| An <| W.seq <| Aw <| Am rfl rfl <| Ao rfl (.lenL U22 (.t rfl)) <| Ao rfl (.move .i64) <| An <| W.block ?_
 obtain ⟨s1, hs2, hk3⟩ := Bs hm
 clear hm
 refine W.loop (fun m (s : Int × List api_Destination × List api_Destination × ((List (api_Id × Bool)) × (List (api_Id × Bool)))) => m = s.2.2.1.length ∧ l = s.2.1 ++ s.2.2.1 ∧ s.1 = (s.2.1.length : Int) ∧ M.destinations_Valid_loop1 s.2.2.1 s.2.2.2.1 s.2.2.2.2 = some s1) (fun s => [(11, (I6.is s.1)), (0, ((tL tapi_Destination).is l)), (3, (Mv b)), (4, (Mv b1)), (9, ((tL tapi_Destination).is l)), (10, (I6.is (l.length : Int)))]) (fun s => [(7, Mp tapi_Id tB s.2.2.2.1 b), (8, Mp tapi_Id tB s.2.2.2.2 b1)]) l.length ((0 : Int), [], l, (([] : List (api_Id × Bool)), ([] : List (api_Id × Bool)))) ⟨rfl, rfl, rfl, hs2⟩ ⟨.q rfl, .q rfl, .q rfl, .q rfl, .q rfl, .q rfl, trivial⟩ ⟨rfl, rfl, ⟨rfl, rfl, trivial⟩⟩ ?_
 rintro m ⟨i, pre, rest1, ⟨v, v1⟩⟩ ⟨hn7, hxs4, hi5, hm⟩
 try dsimp only at hn7 hxs4 hi5 hm
 change W _ _ _ _ _ _ _ [(11, (I6.is i)), (0, ((tL tapi_Destination).is l)), (3, (Mv b)), (4, (Mv b1)), (9, ((tL tapi_Destination).is l)), (10, (I6.is (l.length : Int)))] [(7, Mp tapi_Id tB v b), (8, Mp tapi_Id tB v1 b1)]
 refine W.lenL (s := 9) (.t rfl) fun hlen6 => Aw <| Ao rfl (.ltI (.t rfl) (.t rfl)) <| An <| W.seq <| W.cond (.t rfl) (fun hc9 => ?_) (fun hc9 => ?_)
 ·have hp10 := of_decide_eq_true hc9
  obtain ⟨e, es, hrest12⟩ := range_more hxs4 hi5 hp10
  subst hrest12
  rw [M.destinations_Valid_loop1.eq_2] at hm
  refine W.skip <| Aq <| W.seq <| W.block <| Aw <| Ao rfl (.idxPre hxs4 hi5 U22 Z36 (.t rfl) (.t rfl)) <| Ao rfl (.load ty36 (.t rfl)) <| WL.opR rfl (OpR.alloc 6 ze36) fun b2 => WL.opU (OpR.storeB (b := b2) 6 Z36 (Cellable.is tapi_Destination e) rfl (.t rfl) (.t rfl)) fun _ => WL.sealed (t := tapi_Destination) (u := e) 6 6 rfl rfl <| An <| W.seq ?_
  obtain ⟨s13, hs14, hk15⟩ := Bs hm
  clear hm
  refine W.join (fun s : Bool => s = s13) (fun s => [(24, (tB.is s)), (0, ((tL tapi_Destination).is l)), (3, (Mv b)), (4, (Mv b1)), (6, (tapi_Destination.ptr e)), (9, ((tL tapi_Destination).is l)), (10, (I6.is (l.length : Int))), (11, (I6.is i))]) (fun s => [(7, Mp tapi_Id tB v b), (8, Mp tapi_Id tB v1 b1)]) ?_ ?_
  ·rintro v2 hj21
   try dsimp only at hj21
   subst hj21
   have hm := hk15
   clear hk15
   try dsimp only at hm
   change W _ _ _ _ _ _ _ [(24, (tB.is v2)), (0, ((tL tapi_Destination).is l)), (3, (Mv b)), (4, (Mv b1)), (6, (tapi_Destination.ptr e)), (9, ((tL tapi_Destination).is l)), (10, (I6.is (l.length : Int))), (11, (I6.is i))] [(7, Mp tapi_Id tB v b), (8, Mp tapi_Id tB v1 b1)]
   refine W.cB hm (.t rfl) (fun hp19 hm => ?_) (fun hp19 hm => ?_)
   ·refine Aw <| Ao rfl (.assign .bool) <| WL.ns ?_
    have hr20 := Si hm
    clear hm
    subst hr20
    have hm := hk3
    try dsimp only at hm
    cases hm
    exact W.ret1 () rfl (.t rfl) trivial
   ·exact W.skip <| Aq <| W.weakR (res' := [(7, Mp tapi_Id tB v b), (8, Mp tapi_Id tB v1 b1)]) ⟨rfl, rfl, ⟨rfl, rfl, trivial⟩⟩ <| W.drawM [.c (Mv b), .c (tapi_Id.ptr e.From), .c (tapi_Id.is e.From), .c (Mv b1), .c (tapi_Id.ptr e.To), .c (tapi_Id.is e.To), .c Asn.any, .c Asn.any] [([], [3]), ([], [6]), ([1], []), ([], [4]), ([], [6]), ([4], []), ([0, 2], []), ([3, 5], [])] [6, 7] [[], [], [], [], [], [], [], []] (fun m cv => match m with | 0 => [(7, Mp tapi_Id tB v b), (8, Mp tapi_Id tB v1 b1)] | 1 => [(7, Mp tapi_Id tB (mset v e.From true) b), (8, Mp tapi_Id tB v1 b1)] | _ => [(8, Mp tapi_Id tB (mset v1 e.To true) b1), (7, Mp tapi_Id tB (mset v e.From true) b)]) (fun _ => none) Mx rfl rfl rfl rfl rfl ⟨fun _ _ _ _ => rfl, ⟨fun _ _ _ _ => rfl, ⟨fun _ _ _ _ => rfl, ⟨fun _ _ _ _ => rfl, ⟨fun _ _ _ _ => rfl, ⟨fun _ _ _ _ => rfl, ⟨fun _ _ _ _ => rfl, ⟨fun _ _ _ _ => rfl, trivial⟩⟩⟩⟩⟩⟩⟩⟩ rfl ⟨mo fun cv => Op1.move (.t rfl), ⟨mo fun cv => Op1.fieldAddr U36 rfl J24 fapi_Destination_0 (.t rfl), ⟨mo fun cv => Op1.load ty24 (.t rfl), ⟨mo fun cv => Op1.move (.t rfl), ⟨mo fun cv => Op1.fieldAddr U36 rfl J24 fapi_Destination_1 (.t rfl), ⟨mo fun cv => Op1.load ty24 (.t rfl), ⟨.inl rfl, ⟨.inl rfl, trivial⟩⟩⟩⟩⟩⟩⟩⟩ ⟨⟨_, _, _, [7], (fun cv => [(7, Mp tapi_Id tB (mset v e.From true) b)]), rfl, rfl, rfl, rfl, fun _ => rfl, fun _ _ => rfl, fun cv => OpR.viaU (OpR.mapUpdate (b := b) (v := true) 7 U61 kt24 rfl (.t rfl) (.t rfl) .bool)⟩, ⟨⟨_, _, _, [8], (fun cv => [(8, Mp tapi_Id tB (mset v1 e.To true) b1)]), rfl, rfl, rfl, rfl, fun _ => rfl, fun _ _ => rfl, fun cv => OpR.viaU (OpR.mapUpdate (b := b1) (v := true) 8 U61 kt24 rfl (.t rfl) (.t rfl) .bool)⟩, trivial⟩⟩ fun cv => WN.block <| Aq <| W.region <| Ao rfl (.addI (.t rfl) .i64 (range_inR hi5 hp10 hlen6)) <| Am rfl rfl <| WL.nil <| WN.again es.length (i + 1, pre ++ [e], es, (mset v e.From true, mset v1 e.To true)) (range_lt hn7) ⟨rfl, range_step hxs4, range_idx hi5, hm⟩ ⟨.q rfl, .q rfl, .q rfl, .q rfl, .q rfl, .q rfl, trivial⟩ ⟨rfl, rfl, ⟨rfl, rfl, trivial⟩⟩
  ·have hm := hs14
   clear hs14
   refine W.region <| Am rfl rfl <| Ao rfl (.fieldAddr U36 rfl J24 fapi_Destination_0 (.t rfl)) <| Ao rfl (.load ty24 (.t rfl)) <| Ao rfl (.lookup 7 U61 kt24 ze4 rfl (.t rfl) (.t rfl)) <| WL.mv rfl rfl ?_
   rcases iteB hm with ⟨hp17, hb16, hm⟩ | ⟨hp17, hb16, hm⟩
   ·exact Ap rfl hb16 <| Ap rfl hb16 <| Ap rfl hb16 <| Ap rfl hb16 <| Ao rfl (.pickT (.t rfl) hb16 .bool) <| WL.nil <| WN.meet true (Si hm) ⟨.q rfl, .q rfl, .q rfl, .q rfl, .q rfl, .q rfl, .q rfl, .q rfl, trivial⟩ ⟨rfl, rfl, ⟨rfl, rfl, trivial⟩⟩
   ·exact Ax rfl hb16 (.move (.t rfl)) <| Ax rfl hb16 (.fieldAddr U36 rfl J24 fapi_Destination_1 (.t rfl)) <| Ax rfl hb16 (.load ty24 (.t rfl)) <| Ax rfl hb16 (.lookup 8 U61 kt24 ze4 rfl (.t rfl) (.t rfl)) <| Ao rfl (.pickF (.t rfl) hb16 (.t rfl)) <| WL.nil <| WN.meet (mget v1 e.To false) (Si hm) ⟨.q rfl, .q rfl, .q rfl, .q rfl, .q rfl, .q rfl, .q rfl, .q rfl, trivial⟩ ⟨rfl, rfl, ⟨rfl, rfl, trivial⟩⟩
 ·have hrest12 := range_end hxs4 hi5 (of_decide_eq_false hc9)
  subst hrest12
  rw [M.destinations_Valid_loop1.eq_1] at hm
  refine W.exit rfl ?_
  have hr22 := Si hm
  clear hm
  subst hr22
  have hm := hk3
  try dsimp only at hm
  refine Aq <| Aw <| Am rfl rfl <| Ao rfl (.lenL U22 (.t rfl)) <| Ao rfl (.leI (.t rfl) .i64) <| Ag rfl rfl <| WL.ns ?_
  cases hm
  exact W.ret1 () rfl (.t rfl) trivial

theorem r47_Same_spec (n : Nat) (a : List api_Destination) (b : List api_Destination) (r : Bool) (hm : M.r47_Same n a b = some r) : FSpec Tryd.prog 18 [((tL tapi_Destination).is a), ((tL tapi_Destination).is b)] (tB.is r) := by
 unfold M.r47_Same at hm
 refine FSpec.of Tryd.func18 rfl rfl rfl fun g0 => Aw <| Ao rfl (.assign .bool) <| An <| W.seq <| Aw <| Am rfl rfl <| Ao rfl (.lenL U22 (.t rfl)) <| Am rfl rfl <| Ao rfl (.lenL U22 (.t rfl)) <| Ao rfl (.neI (.t rfl) (.t rfl)) <| An <| W.cD hm (.t rfl) (fun hp2 hm => ?_) (fun hp2 hm => ?_)
 ·refine Aw <| Ao rfl (.assign .bool) <| WL.ns ?_
  cases hm
  exact W.ret1 () rfl (.t rfl) trivial
 ·refine W.skip <| Aq <| W.seq <| Aw <| Ao rfl (.assign .i64) <| An <| W.block ?_
  obtain ⟨s3, hs4, hk5⟩ := Bs hm
  clear hm
  refine W.loop (fun m (s : Int) => M.r47_Same_loop1 a b m s = some s3) (fun s => [(5, (I6.is s)), (0, ((tL tapi_Destination).is a)), (1, ((tL tapi_Destination).is b))]) (fun s => []) _ (0 : Int) hs4 ⟨.q rfl, .q rfl, .q rfl, trivial⟩ trivial ?_
  rintro n6 i hm
  try dsimp only at hm
  change W _ _ _ _ _ _ _ [(5, (I6.is i)), (0, ((tL tapi_Destination).is a)), (1, ((tL tapi_Destination).is b))] []
  cases n6 with
  | zero => rw [M.r47_Same_loop1.eq_1] at hm; cases hm
  | succ n6 =>
   rw [M.r47_Same_loop1.eq_2] at hm
   refine W.seq <| Aw <| Am rfl rfl <| Am rfl rfl <| Ao rfl (.lenL U22 (.t rfl)) <| Ao rfl (.ltI (.t rfl) (.t rfl)) <| An <| W.cD hm (.t rfl) (fun hp8 hm => ?_) (fun hp8 hm => ?_)
   ·refine W.skip <| Aq <| W.seq <| W.block <| W.seq ?_
    obtain ⟨v, hv9, hm⟩ := Bs hm
    obtain ⟨v1, hv10, hm⟩ := Bs hm
    refine W.draw [.c _, .c _, .c _, .c _, .c _, .c _, .c _, .c _, .c _] [([], [0]), ([], [5]), ([0, 1], []), ([2], []), ([], [1]), ([], [5]), ([4, 5], []), ([6], []), ([3, 7], [])] Mx rfl rfl rfl rfl ⟨Dn (.move (.t rfl)), Dn (.move (.t rfl)), Dn (.idx hv9 U22 Z36 (.t rfl) (.t rfl)), Dn (.load ty36 (.t rfl)), Dn (.move (.t rfl)), Dn (.move (.t rfl)), Dn (.idx hv10 U22 Z36 (.t rfl) (.t rfl)), Dn (.load ty36 (.t rfl)), Dn (.neSt (D := 3) rfl (by decide) eg36 eq36 (.t rfl) (.t rfl)), trivial⟩ <| Aq <| W.cD hm (.t rfl) (fun hp12 hm => ?_) (fun hp12 hm => ?_)
    ·refine Aw <| Ao rfl (.assign .bool) <| WL.ns ?_
     have hr13 := Si hm
     clear hm
     subst hr13
     have hm := hk5
     try dsimp only at hm
     cases hm
     exact W.ret1 () rfl (.t rfl) trivial
    ·exact W.skip <| WN.block <| Aq <| W.region <| Am rfl rfl <| WL.lenL (s := 0) (.t rfl) fun hl14 => Ao rfl (.addI1 (.t rfl) .i64 hp8 hl14) <| Ag rfl rfl <| WL.nil <| WN.again n6 (i + 1) (Nat.lt_succ_self n6) hm ⟨.q rfl, .q rfl, .q rfl, trivial⟩ trivial
   ·refine W.exit rfl ?_
    have hr15 := Si hm
    clear hm
    subst hr15
    have hm := hk5
    try dsimp only at hm
    refine Aq <| Aw <| Ao rfl (.assign .bool) <| WL.ns ?_
    cases hm
    exact W.ret1 () rfl (.t rfl) trivial

theorem law47_DestinationsFormat_spec (n : Nat) (l : List api_Destination) (r : Bool) (hm : M.law47_DestinationsFormat n l = some r) : FSpecR Tryd.prog 9 [((tL tapi_Destination).is l)] [(700000, GlE 0), (700001, GlI 1), (700002, GlI 2), (700005, GlT Tryd.prog "internal/strconv.uint64pow10" .u64 Lib.pow10Tab)] (fun _ : Unit => (tB.is r)) (fun _ => []) := by
 unfold M.law47_DestinationsFormat at hm
 refine FSpecR.of Tryd.func9 rfl rfl rfl fun g0 => Aw <| Ao rfl (.assign .bool) <| An <| W.seq ?_
 obtain ⟨s1, hs2, hk3⟩ := Bs hm
 clear hm
 refine W.join (fun s : Bool => s = s1) (fun s => [(13, (tB.is s)), (0, ((tL tapi_Destination).is l))]) (fun s => [(700000, GlE 0), (700001, GlI 1), (700002, GlI 2), (700005, GlT Tryd.prog "internal/strconv.uint64pow10" .u64 Lib.pow10Tab)]) ?_ ?_
 ·rintro v hj31
  try dsimp only at hj31
  subst hj31
  have hm := hk3
  clear hk3
  try dsimp only at hm
  change W _ _ _ _ _ _ _ [(13, (tB.is v)), (0, ((tL tapi_Destination).is l))] [(700000, GlE 0), (700001, GlI 1), (700002, GlI 2), (700005, GlT Tryd.prog "internal/strconv.uint64pow10" .u64 Lib.pow10Tab)]
  refine W.cB hm (.t rfl) (fun hp8 hm => ?_) (fun hp8 hm => ?_)
  ·refine W.sr ?_
   obtain ⟨awake1, hv9, hm⟩ := Bs hm
   refine Ao rfl (.callG (rin := [(700005, GlT Tryd.prog "internal/strconv.uint64pow10" .u64 Lib.pow10Tab)]) C10 (law47_awake_spec _ _ hv9) ⟨rfl, trivial⟩ ⟨rfl, rfl, trivial⟩ trivial) <| Ag rfl rfl <| WL.ns ?_
   cases hm
   exact W.ret1 () rfl (.t rfl) trivial
  ·refine W.skip <| Aq <| Aw <| WL.mv rfl rfl ?_
   obtain ⟨format, hv10, hm⟩ := Bs hm
   refine Ao rfl (.callG (rin := [(700005, GlT Tryd.prog "internal/strconv.uint64pow10" .u64 Lib.pow10Tab)]) C27 (destinations_Format_spec _ _ hv10) ⟨rfl, trivial⟩ ⟨rfl, rfl, trivial⟩ ⟨(.t rfl), trivial⟩) <| Ag rfl rfl <| An <| W.seq <| Aw <| Am rfl rfl <| WL.mv rfl rfl ?_
   obtain ⟨text, hv11, hm⟩ := Bs hm
   refine Ao rfl (.call C28 (r47_Text_spec _ _ _ hv11) ⟨(.t rfl), trivial⟩) <| Ao rfl (.neS (.t rfl) (.t rfl)) <| An <| W.cB hm (.t rfl) (fun hp13 hm => ?_) (fun hp13 hm => ?_)
   ·refine Aw <| Ao rfl (.assign .bool) <| WL.ns ?_
    cases hm
    exact W.ret1 () rfl (.t rfl) trivial
   ·refine W.skip <| Aq <| Aw <| WL.mv rfl rfl ?_
    obtain ⟨parse, hv14, hm⟩ := Bs hm
    refine Ao rfl (.callG (rin := [(700000, GlE 0), (700001, GlI 1), (700002, GlI 2), (700005, GlT Tryd.prog "internal/strconv.uint64pow10" .u64 Lib.pow10Tab)]) C25 (destinations_Parse_spec _ _ _ hv14) ⟨rfl, rfl, rfl, rfl, trivial⟩ ⟨rfl, rfl, ⟨rfl, rfl, ⟨rfl, rfl, ⟨rfl, rfl, trivial⟩⟩⟩⟩ ⟨(.t rfl), trivial⟩) <| Am rfl rfl <| Ao rfl (.extract30 (.t rfl)) <| Ao rfl (.extract31 (.t rfl)) <| Ao rfl (.extract32 (.t rfl)) <| Ag rfl rfl <| Ag rfl rfl <| Ag rfl rfl <| An <| W.seq <| Aw <| WL.mv rfl rfl ?_
    obtain ⟨valid, hv15, hm⟩ := Bs hm
    refine Ao rfl (.call C15 (destinations_Valid_spec _ _ hv15) ⟨(.t rfl), trivial⟩) <| Ao rfl (.notB (.t rfl)) <| An <| W.cR hm (.t rfl) (fun hp17 hm => ?_) (fun hp17 hm => ?_)
    ·obtain ⟨s18, hs19, hk20⟩ := Bs hm
     clear hm
     refine W.join (fun s : Bool => s = s18) (fun s => [(2, (tB.is s))]) (fun s => [(700000, GlE 0), (700001, GlI 1), (700002, GlI 2), (700005, GlT Tryd.prog "internal/strconv.uint64pow10" .u64 Lib.pow10Tab)]) ?_ ?_
     ·rintro v1 hj25
      try dsimp only at hj25
      subst hj25
      have hm := hk20
      clear hk20
      try dsimp only at hm
      change W _ _ _ _ _ _ _ [(2, (tB.is v1))] [(700000, GlE 0), (700001, GlI 1), (700002, GlI 2), (700005, GlT Tryd.prog "internal/strconv.uint64pow10" .u64 Lib.pow10Tab)]
      cases hm
      exact W.ret1 () rfl (.t rfl) trivial
     ·have hm := hs19
      clear hs19
      refine W.region <| Am rfl rfl <| Ao rfl (.eqI (.t rfl) .i64) <| WL.mv rfl rfl ?_
      rcases iteD hm with ⟨hp22, hb21, hm⟩ | ⟨hp22, hb21, hm⟩
      ·refine Ax rfl hb21 (.move (.t rfl)) <| Ax rfl hb21 (.lenL U22 (.t rfl)) <| Ax rfl hb21 (.eqI (.t rfl) .i64) <| Ao rfl (.pickT (.t rfl) hb21 (.t rfl)) <| WL.mv rfl rfl ?_
       rcases iteD hm with ⟨hp24, hb23, hm⟩ | ⟨hp24, hb23, hm⟩
       ·exact Ax rfl hb23 (.move (.t rfl)) <| Ax rfl hb23 (.move (.t rfl)) <| Ax rfl hb23 (.lenL U22 (.t rfl)) <| Ax rfl hb23 (.ltI (.t rfl) (.t rfl)) <| Ao rfl (.pickT (.t rfl) hb23 (.t rfl)) <| Ag rfl rfl <| WL.nil <| WN.meet (decide (parse.2.1 < (l.length : Int))) (Si hm) ⟨.q rfl, trivial⟩ ⟨rfl, rfl, ⟨rfl, rfl, ⟨rfl, rfl, ⟨rfl, rfl, trivial⟩⟩⟩⟩
       ·exact Ap rfl hb23 <| Ap rfl hb23 <| Ap rfl hb23 <| Ap rfl hb23 <| Ao rfl (.pickF (.t rfl) hb23 .bool) <| Ag rfl rfl <| WL.nil <| WN.meet false (Si hm) ⟨.q rfl, trivial⟩ ⟨rfl, rfl, ⟨rfl, rfl, ⟨rfl, rfl, ⟨rfl, rfl, trivial⟩⟩⟩⟩
      ·exact Ap rfl hb21 <| Ap rfl hb21 <| Ap rfl hb21 <| Ao rfl (.pickF (.t rfl) hb21 .bool) <| Am rfl rfl <| Ap rfl rfl <| Ap rfl rfl <| Ap rfl rfl <| Ap rfl rfl <| Ao rfl (.pickF (.t rfl) rfl .bool) <| Ag rfl rfl <| WL.nil <| WN.meet false (Si hm) ⟨.q rfl, trivial⟩ ⟨rfl, rfl, ⟨rfl, rfl, ⟨rfl, rfl, ⟨rfl, rfl, trivial⟩⟩⟩⟩
    ·refine W.skip <| Aq <| Aw <| Am rfl rfl <| Ao rfl (.eqI (.t rfl) .i64) <| WL.mv rfl rfl ?_
     rcases iteD hm with ⟨hp27, hb26, hm⟩ | ⟨hp27, hb26, hm⟩
     ·refine Ax rfl hb26 (.move (.t rfl)) <| Ax rfl hb26 (.move (.t rfl)) <| Ax rfl hb26 (.lenL U22 (.t rfl)) <| Ax rfl hb26 (.eqI (.t rfl) (.t rfl)) <| Ao rfl (.pickT (.t rfl) hb26 (.t rfl)) <| WL.mv rfl rfl ?_
      rcases iteD hm with ⟨hp29, hb28, hm⟩ | ⟨hp29, hb28, hm⟩
      ·refine Ax rfl hb28 (.move (.t rfl)) <| Ax rfl hb28 (.move (.t rfl)) ?_
       obtain ⟨same, hv30, hm⟩ := Bs hm
       refine Ax rfl hb28 (.call C18 (r47_Same_spec _ _ _ _ hv30) ⟨(.t rfl), (.t rfl), trivial⟩) <| Ao rfl (.pickT (.t rfl) hb28 (.t rfl)) <| Ag rfl rfl <| WL.ns ?_
       cases hm
       exact W.ret1 () rfl (.t rfl) trivial
      ·refine Ap rfl hb28 <| Ap rfl hb28 <| Ap rfl hb28 <| Ao rfl (.pickF (.t rfl) hb28 .bool) <| Ag rfl rfl <| WL.ns ?_
       cases hm
       exact W.ret1 () rfl (.t rfl) trivial
     ·refine Ap rfl hb26 <| Ap rfl hb26 <| Ap rfl hb26 <| Ap rfl hb26 <| Ao rfl (.pickF (.t rfl) hb26 .bool) <| Am rfl rfl <| Ap rfl rfl <| Ap rfl rfl <| Ap rfl rfl <| Ao rfl (.pickF (.t rfl) rfl .bool) <| Ag rfl rfl <| WL.ns ?_
      cases hm
      exact W.ret1 () rfl (.t rfl) trivial
 ·have hm := hs2
  clear hs2
  refine W.region ?_
  obtain ⟨awake, hv4, hm⟩ := Bs hm
  refine Ao rfl (.callG (rin := [(700005, GlT Tryd.prog "internal/strconv.uint64pow10" .u64 Lib.pow10Tab)]) C10 (law47_awake_spec _ _ hv4) ⟨rfl, trivial⟩ ⟨rfl, rfl, trivial⟩ trivial) <| Ao rfl (.notB (.t rfl)) <| WL.mv rfl rfl ?_
  rcases iteR hm with ⟨hp6, hb5, hm⟩ | ⟨hp6, hb5, hm⟩
  ·exact Ap rfl hb5 <| Ap rfl hb5 <| Ap rfl hb5 <| Ao rfl (.pickT (.t rfl) hb5 .bool) <| WL.nil <| WN.meet true (Si hm) ⟨.q rfl, .q rfl, trivial⟩ ⟨rfl, rfl, ⟨rfl, rfl, ⟨rfl, rfl, ⟨rfl, rfl, trivial⟩⟩⟩⟩
  ·exact Ax rfl hb5 (.move (.t rfl)) <| Ax rfl hb5 (.lenL U22 (.t rfl)) <| Ax rfl hb5 (.gtI (.t rfl) .i64) <| Ao rfl (.pickF (.t rfl) hb5 (.t rfl)) <| WL.nil <| WN.meet (decide ((60 : Int) < (l.length : Int))) (Si hm) ⟨.q rfl, .q rfl, trivial⟩ ⟨rfl, rfl, ⟨rfl, rfl, ⟨rfl, rfl, ⟨rfl, rfl, trivial⟩⟩⟩⟩

theorem r07_Cut_spec (n : Nat) (s0_ : Str) (r : (List Str)) (hm : M.r07_Cut n s0_ = some r) : FSpec Tryd.prog 57 [(tS.is s0_)] ((tL tS).is r) := by
 unfold M.r07_Cut at hm
 refine FSpec.of Tryd.func57 rfl rfl rfl fun g0 => Aw <| Ao rfl (.assign (.nil (t := tS))) <| Ar <| WL.opR rfl (OpR.buildSlice (n := 0) (ys := []) (z := ([] : Str)) (xs := ([] : List Str)) 6 U46 el9 ze9 trivial (by simp) (by decide) rfl) fun k => Ag rfl rfl <| Ar <| Ao rfl (.assign .i64) <| An <| W.seq <| Aw <| Ao rfl (.assign .i64) <| An <| W.block ?_
 obtain ⟨s1, hs2, hk3⟩ := Bs hm
 clear hm
 refine W.loop (fun m (s : ((List Str) × Int × Int) × Tok) => M.r07_Cut_loop1 s0_ m s.1.1 s.1.2.1 s.1.2.2 = some s1) (fun s => [(3, (tO tS s.2 s.1.1)), (4, (I6.is s.1.2.1)), (5, (I6.is s.1.2.2)), (0, (tS.is s0_))]) (fun s => [(6, Dec.Own tS 9 s.2 s.1.1.length)]) _ ((([] : List Str), (0 : Int), (0 : Int)), k) hs2 ⟨.q rfl, .q rfl, .q rfl, .q rfl, trivial⟩ ⟨rfl, rfl, trivial⟩ ?_
 rintro n4 ⟨⟨out, from0_, i⟩, k1⟩ hm
 try dsimp only at hm
 change W _ _ _ _ _ _ _ [(3, (tO tS k1 out)), (4, (I6.is from0_)), (5, (I6.is i)), (0, (tS.is s0_))] [(6, Dec.Own tS 9 k1 out.length)]
 cases n4 with
 | zero => rw [M.r07_Cut_loop1.eq_1] at hm; cases hm
 | succ n4 =>
  rw [M.r07_Cut_loop1.eq_2] at hm
  refine W.seq <| Aw <| Am rfl rfl <| Am rfl rfl <| Ao rfl (.lenS U9 (.t rfl)) <| Ao rfl (.leI (.t rfl) (.t rfl)) <| An <| W.cD hm (.t rfl) (fun hp6 hm => ?_) (fun hp6 hm => ?_)
  ·refine W.skip <| Aq <| W.seq <| W.block ?_
   obtain ⟨s7, hs8, hk9⟩ := Bs hm
   clear hm
   refine W.join (fun s : Bool => s = s7) (fun s => [(22, (tB.is s)), (0, (tS.is s0_)), (3, (tO tS k1 out)), (4, (I6.is from0_)), (5, (I6.is i))]) (fun s => [(6, Dec.Own tS 9 k1 out.length)]) ?_ ?_
   ·rintro v hj20
    try dsimp only at hj20
    subst hj20
    have hm := hk9
    clear hk9
    try dsimp only at hm
    change W _ _ _ _ _ _ _ [(22, (tB.is v)), (0, (tS.is s0_)), (3, (tO tS k1 out)), (4, (I6.is from0_)), (5, (I6.is i))] [(6, Dec.Own tS 9 k1 out.length)]
    refine W.cB hm (.t rfl) (fun hp14 hm => ?_) (fun hp14 hm => ?_)
    ·refine Aw <| Am rfl rfl <| Am rfl rfl <| Am rfl rfl <| WL.mv rfl rfl ?_
     obtain ⟨v1, hv15, hm⟩ := Bs hm
     refine Ao rfl (.sslc hv15 U9 (.t rfl) (.t rfl) (.t rfl)) <| Ao rfl (.buildSlice (n := 1) (ys := [(0, v1)]) (z := ([] : Str)) (xs := [v1]) U46 el9 ze9 ⟨rfl, (.t rfl), trivial⟩ (by simp) (by decide) rfl) ?_
     obtain ⟨out1, hv16, hm⟩ := Bs hm
     refine WL.opR rfl (OpR.appC (key := 6) hv16 U46 el9 (.t rfl) (.t rfl) rfl) fun k2 => Ag rfl rfl <| WL.nr1 <| WL.mv rfl rfl ?_
     obtain ⟨v2, hv17, hm⟩ := Bs hm
     refine Ao rfl (.addC hv17 (.t rfl) .i64) <| Ag rfl rfl <| WL.nil <| WN.block <| Aq <| W.region <| WL.mv rfl rfl ?_
     obtain ⟨v3, hv18, hm⟩ := Bs hm
     exact Ao rfl (.addC hv18 (.t rfl) .i64) <| Ag rfl rfl <| WL.nil <| WN.again n4 ((out1, v2, v3), k2) (Nat.lt_succ_self n4) hm ⟨.q rfl, .q rfl, .q rfl, .q rfl, trivial⟩ ⟨rfl, rfl, trivial⟩
    ·refine W.skip <| WN.block <| Aq <| W.region <| WL.mv rfl rfl ?_
     obtain ⟨v4, hv19, hm⟩ := Bs hm
     exact Ao rfl (.addC hv19 (.t rfl) .i64) <| Ag rfl rfl <| WL.nil <| WN.again n4 ((out, from0_, v4), k1) (Nat.lt_succ_self n4) hm ⟨.q rfl, .q rfl, .q rfl, .q rfl, trivial⟩ ⟨rfl, rfl, trivial⟩
   ·have hm := hs8
    clear hs8
    refine W.region <| Am rfl rfl <| Am rfl rfl <| Ao rfl (.lenS U9 (.t rfl)) <| Ao rfl (.eqI (.t rfl) (.t rfl)) <| WL.mv rfl rfl ?_
    rcases iteD hm with ⟨hp11, hb10, hm⟩ | ⟨hp11, hb10, hm⟩
    ·exact Ap rfl hb10 <| Ap rfl hb10 <| Ap rfl hb10 <| Ap rfl hb10 <| Ao rfl (.pickT (.t rfl) hb10 .bool) <| WL.nil <| WN.meet true (Si hm) ⟨.q rfl, .q rfl, .q rfl, .q rfl, .q rfl, trivial⟩ ⟨rfl, rfl, trivial⟩
    ·refine Ax rfl hb10 (.move (.t rfl)) <| Ax rfl hb10 (.move (.t rfl)) ?_
     obtain ⟨b, hv12, hm⟩ := Bs hm
     exact Ax rfl hb10 (.sidx hv12 U9 (.t rfl) (.t rfl)) <| Ax rfl hb10 (.eqI (.t rfl) (.int (inR8.2 (by omega)))) <| Ao rfl (.pickF (.t rfl) hb10 (.t rfl)) <| WL.nil <| WN.meet (decide ((b.toNat : Int) = (32 : Int))) (Si hm) ⟨.q rfl, .q rfl, .q rfl, .q rfl, .q rfl, trivial⟩ ⟨rfl, rfl, trivial⟩
  ·refine W.exit rfl ?_
   have hr21 := Si hm
   clear hm
   subst hr21
   have hm := hk3
   try dsimp only at hm
   refine Aq <| Aw <| Am rfl rfl <| Ag rfl rfl <| WL.ns ?_
   cases hm
   exact W.ret1 () rfl (Opd.own (.t rfl)) trivial

theorem r47_number_spec (n : Nat) (s0_ : Str) (r : Int) (hm : M.r47_number n s0_ = some r) : FSpec Tryd.prog 58 [(tS.is s0_)] (I6.is r) := by
 unfold M.r47_number at hm
 refine FSpec.of Tryd.func58 rfl rfl rfl fun g0 => Aw <| Ao rfl (.assign .i64) <| Ar <| Ao rfl (.assign .i64) <| An <| W.seq <| Aw <| Ao rfl (.assign .i64) <| An <| W.block ?_
 obtain ⟨s1, hs2, hk3⟩ := Bs hm
 clear hm
 refine W.loop (fun m (s : Int × Int) => M.r47_number_loop1 s0_ m s.1 s.2 = some s1) (fun s => [(3, (I6.is s.1)), (4, (I6.is s.2)), (0, (tS.is s0_))]) (fun s => []) _ ((0 : Int), (0 : Int)) hs2 ⟨.q rfl, .q rfl, .q rfl, trivial⟩ trivial ?_
 rintro n4 ⟨n0_, i⟩ hm
 try dsimp only at hm
 change W _ _ _ _ _ _ _ [(3, (I6.is n0_)), (4, (I6.is i)), (0, (tS.is s0_))] []
 cases n4 with
 | zero => rw [M.r47_number_loop1.eq_1] at hm; cases hm
 | succ n4 =>
  rw [M.r47_number_loop1.eq_2] at hm
  refine W.seq <| Aw <| Am rfl rfl <| Am rfl rfl <| Ao rfl (.lenS U9 (.t rfl)) <| Ao rfl (.ltI (.t rfl) (.t rfl)) <| An <| W.cD hm (.t rfl) (fun hp6 hm => ?_) (fun hp6 hm => ?_)
  ·refine W.skip <| Aq <| W.seq <| W.block ?_
   obtain ⟨s7, hs8, hk9⟩ := Bs hm
   clear hm
   refine W.join (fun s : Bool => s = s7) (fun s => [(20, (tB.is s)), (0, (tS.is s0_)), (3, (I6.is n0_)), (4, (I6.is i))]) (fun s => []) ?_ ?_
   ·rintro v hj19
    try dsimp only at hj19
    subst hj19
    have hm := hk9
    clear hk9
    try dsimp only at hm
    change W _ _ _ _ _ _ _ [(20, (tB.is v)), (0, (tS.is s0_)), (3, (I6.is n0_)), (4, (I6.is i))] []
    refine W.cB hm (.t rfl) (fun hp15 hm => ?_) (fun hp15 hm => ?_)
    ·refine W.region <| Am rfl rfl <| Ao rfl (.mulW64 .i64 (.t rfl)) <| Am rfl rfl <| WL.mv rfl rfl ?_
     obtain ⟨b2, hv16, hm⟩ := Bs hm
     exact Ao rfl (.sidx hv16 U9 (.t rfl) (.t rfl)) <| Ao rfl (.sub8 (.t rfl) (.int (inR8.2 (by omega)))) <| Ao rfl (.conv8 U5 U3 (.t rfl)) <| Ao rfl (.subW64 (.t rfl) (.t rfl)) <| Ag rfl rfl <| WL.nil <| WN.block <| Aq <| W.region <| Am rfl rfl <| WL.lenS (s := 0) (.t rfl) fun hl17 => Ao rfl (.addI1 (.t rfl) .i64 hp6 hl17) <| Ag rfl rfl <| WL.nil <| WN.again n4 (wrap64 ((wrap64 ((10 : Int) * n0_)) - (wrap8 ((b2.toNat : Int) - (48 : Int)))), i + 1) (Nat.lt_succ_self n4) hm ⟨.q rfl, .q rfl, .q rfl, trivial⟩ trivial
    ·exact W.skip <| WN.block <| Aq <| W.region <| Am rfl rfl <| WL.lenS (s := 0) (.t rfl) fun hl18 => Ao rfl (.addI1 (.t rfl) .i64 hp6 hl18) <| Ag rfl rfl <| WL.nil <| WN.again n4 (n0_, i + 1) (Nat.lt_succ_self n4) hm ⟨.q rfl, .q rfl, .q rfl, trivial⟩ trivial
   ·have hm := hs8
    clear hs8
    refine W.region <| Am rfl rfl <| WL.mv rfl rfl ?_
    obtain ⟨b, hv10, hm⟩ := Bs hm
    refine Ao rfl (.sidx hv10 U9 (.t rfl) (.t rfl)) <| Ao rfl (.geI (.t rfl) (.int (inR8.2 (by omega)))) <| WL.mv rfl rfl ?_
    rcases iteD hm with ⟨hp12, hb11, hm⟩ | ⟨hp12, hb11, hm⟩
    ·refine Ax rfl hb11 (.move (.t rfl)) <| Ax rfl hb11 (.move (.t rfl)) ?_
     obtain ⟨b1, hv13, hm⟩ := Bs hm
     exact Ax rfl hb11 (.sidx hv13 U9 (.t rfl) (.t rfl)) <| Ax rfl hb11 (.leI (.t rfl) (.int (inR8.2 (by omega)))) <| Ao rfl (.pickT (.t rfl) hb11 (.t rfl)) <| WL.nil <| WN.meet (decide ((b1.toNat : Int) ≤ (57 : Int))) (Si hm) ⟨.q rfl, .q rfl, .q rfl, .q rfl, trivial⟩ trivial
    ·exact Ap rfl hb11 <| Ap rfl hb11 <| Ap rfl hb11 <| Ap rfl hb11 <| Ao rfl (.pickF (.t rfl) hb11 .bool) <| WL.nil <| WN.meet false (Si hm) ⟨.q rfl, .q rfl, .q rfl, .q rfl, trivial⟩ trivial
  ·refine W.exit rfl ?_
   have hr20 := Si hm
   clear hm
   subst hr20
   have hm := hk3
   try dsimp only at hm
   refine Aq <| W.seq <| Aw <| Am rfl rfl <| Ao rfl (.lenS U9 (.t rfl)) <| Ao rfl (.gtI (.t rfl) .i64) <| WL.mv rfl rfl ?_
   rcases iteD hm with ⟨hp22, hb21, hm⟩ | ⟨hp22, hb21, hm⟩
   ·refine Ax rfl hb21 (.move (.t rfl)) ?_
    obtain ⟨b3, hv23, hm⟩ := Bs hm
    refine Ax rfl hb21 (.sidx hv23 U9 (.t rfl) .i64) <| Ax rfl hb21 (.eqI (.t rfl) (.int (inR8.2 (by omega)))) <| Ao rfl (.pickT (.t rfl) hb21 (.t rfl)) <| An <| W.cD hm (.t rfl) (fun hp25 hm => ?_) (fun hp25 hm => ?_)
    ·refine Aw <| Am rfl rfl <| Ag rfl rfl <| WL.ns ?_
     cases hm
     exact W.ret1 () rfl (.t rfl) trivial
    ·refine W.skip <| Aq <| Aw <| Am rfl rfl <| Ao rfl (.negW64 (.t rfl)) <| Ag rfl rfl <| WL.ns ?_
     cases hm
     exact W.ret1 () rfl (.t rfl) trivial
   ·refine Ap rfl hb21 <| Ap rfl hb21 <| Ap rfl hb21 <| Ao rfl (.pickF (.t rfl) hb21 .bool) <| An <| W.condF (.t rfl) <| W.skip <| Aq <| Aw <| Am rfl rfl <| Ao rfl (.negW64 (.t rfl)) <| Ag rfl rfl <| WL.ns ?_
    cases hm
    exact W.ret1 () rfl (.t rfl) trivial

theorem r47_Read_spec (n : Nat) (s0_ : Str) (r : api_Destination × Bool) (hm : M.r47_Read n s0_ = some r) : FSpec Tryd.prog 39 [(tS.is s0_)] (Asn.tuple2 (tapi_Destination.is r.1) (tB.is r.2)) := by
 unfold M.r47_Read at hm
 refine FSpec.of Tryd.func39 rfl rfl rfl fun g0 => Aw <| WL.opR rfl (OpR.alloc 2 ze36) fun b => Ao rfl (.assign .bool) <| Ar <| WL.mv rfl rfl ?_
 obtain ⟨cut, hv1, hm⟩ := Bs hm
 refine Ao rfl (.call C57 (r07_Cut_spec _ _ _ hv1) ⟨(.t rfl), trivial⟩) <| Ag rfl rfl <| An <| W.seq <| Aw <| Am rfl rfl <| Ao rfl (.lenL U46 (.t rfl)) <| Ao rfl (.neI (.t rfl) .i64) <| An <| W.cD hm (.t rfl) (fun hp3 hm => ?_) (fun hp3 hm => ?_)
 ·refine Aw <| Ao rfl (.build (s := tapi_Destination) (x := (⟨zapi_Id, zapi_Id⟩ : api_Destination)) zapi_Destination_f rfl U36 (zapi_Destination_sz _ U36) ze36 rfl) <| WL.opU (OpR.storeB (b := b) 2 Z36 (Cellable.is tapi_Destination (⟨zapi_Id, zapi_Id⟩ : api_Destination)) rfl (.t rfl) (.t rfl)) fun _ => Ao rfl (.assign .bool) <| WL.ns ?_
  cases hm
  exact W.retQ2 () rfl rfl (ResAt.cell 2 Y36 Z36 rfl (.t rfl)) (ResAt.tmp (.t rfl)) trivial
 ·refine W.skip <| Aq <| W.seq ?_
  obtain ⟨v, hv4, hm⟩ := Bs hm
  obtain ⟨number, hv5, hm⟩ := Bs hm
  obtain ⟨v1, hv6, hm⟩ := Bs hm
  obtain ⟨number1, hv7, hm⟩ := Bs hm
  obtain ⟨v2, hv8, hm⟩ := Bs hm
  obtain ⟨number2, hv9, hm⟩ := Bs hm
  obtain ⟨v3, hv10, hm⟩ := Bs hm
  obtain ⟨number3, hv11, hm⟩ := Bs hm
  obtain ⟨v4, hv12, hm⟩ := Bs hm
  obtain ⟨number4, hv13, hm⟩ := Bs hm
  obtain ⟨v5, hv14, hm⟩ := Bs hm
  obtain ⟨number5, hv15, hm⟩ := Bs hm
  refine W.weakR (res' := [(2, (Bx 6 true 36 (tapi_Destination.is zapi_Destination) b))]) ⟨rfl, rfl, trivial⟩ <| W.drawM [.c ((tL tS).is cut), .c (tS.ptr v), .c (tS.is v), .c (I6.is number), .c ((tL tS).is cut), .c (tS.ptr v1), .c (tS.is v1), .c (I6.is number1), .c ((tL tS).is cut), .c (tS.ptr v2), .c (tS.is v2), .c (I6.is number2), .c (tapi_Id.is (⟨number, number1, number2⟩ : api_Id)), .c ((tL tS).is cut), .c (tS.ptr v3), .c (tS.is v3), .c (I6.is number3), .c ((tL tS).is cut), .c (tS.ptr v4), .c (tS.is v4), .c (I6.is number4), .c ((tL tS).is cut), .c (tS.ptr v5), .c (tS.is v5), .c (I6.is number5), .c (tapi_Id.is (⟨number3, number4, number5⟩ : api_Id)), .c (tapi_Destination.is (⟨(⟨number, number1, number2⟩ : api_Id), (⟨number3, number4, number5⟩ : api_Id)⟩ : api_Destination)), .f (fun cv => (Bp (bk (cv 0)) 0)), .c Asn.any] [([], [4]), ([0], []), ([1], []), ([2], []), ([], [4]), ([4], []), ([5], []), ([6], []), ([], [4]), ([8], []), ([9], []), ([10], []), ([3, 7, 11], []), ([], [4]), ([13], []), ([14], []), ([15], []), ([], [4]), ([17], []), ([18], []), ([19], []), ([], [4]), ([21], []), ([22], []), ([23], []), ([16, 20, 24], []), ([12, 25], []), ([], []), ([26, 27], [])] [27, 28] [[], [], [], [], [], [], [], [], [], [], [], [], [], [], [], [], [], [], [], [], [], [], [], [], [], [], [], [true], []] (fun m cv => match m with | 0 => [(2, (Bx 6 true 36 (tapi_Destination.is zapi_Destination) b))] | 1 => [(5, (Bx 6 true 36 (tapi_Destination.is zapi_Destination) (bk (cv 0)))), (2, (Bx 6 true 36 (tapi_Destination.is zapi_Destination) b))] | _ => [(5, (Bx 6 true 36 (tapi_Destination.is (⟨(⟨number, number1, number2⟩ : api_Id), (⟨number3, number4, number5⟩ : api_Id)⟩ : api_Destination)) (bk (cv 0)))), (2, (Bx 6 true 36 (tapi_Destination.is zapi_Destination) b))]) (fun _ => none) Mx rfl rfl rfl rfl rfl ⟨fun _ _ _ _ => rfl, ⟨fun _ _ _ _ => rfl, ⟨fun _ _ _ _ => rfl, ⟨fun _ _ _ _ => rfl, ⟨fun _ _ _ _ => rfl, ⟨fun _ _ _ _ => rfl, ⟨fun _ _ _ _ => rfl, ⟨fun _ _ _ _ => rfl, ⟨fun _ _ _ _ => rfl, ⟨fun _ _ _ _ => rfl, ⟨fun _ _ _ _ => rfl, ⟨fun _ _ _ _ => rfl, ⟨fun _ _ _ _ => rfl, ⟨fun _ _ _ _ => rfl, ⟨fun _ _ _ _ => rfl, ⟨fun _ _ _ _ => rfl, ⟨fun _ _ _ _ => rfl, ⟨fun _ _ _ _ => rfl, ⟨fun _ _ _ _ => rfl, ⟨fun _ _ _ _ => rfl, ⟨fun _ _ _ _ => rfl, ⟨fun _ _ _ _ => rfl, ⟨fun _ _ _ _ => rfl, ⟨fun _ _ _ _ => rfl, ⟨fun _ _ _ _ => rfl, ⟨fun _ _ _ _ => rfl, ⟨fun _ _ _ _ => rfl, ⟨fun m hm c t => by simp only [DA.at, upd_dep (r := [true]) (j := 0) rfl hm], ⟨fun _ _ _ _ => rfl, trivial⟩⟩⟩⟩⟩⟩⟩⟩⟩⟩⟩⟩⟩⟩⟩⟩⟩⟩⟩⟩⟩⟩⟩⟩⟩⟩⟩⟩⟩ rfl ⟨mo fun cv => Op1.move (.t rfl), ⟨mo fun cv => Op1.idx hv4 U46 Z9 (.t rfl) .i64, ⟨mo fun cv => Op1.load ty9 (.t rfl), ⟨mo fun cv => Op1.call C58 (r47_number_spec _ _ _ hv5) ⟨(.t rfl), trivial⟩, ⟨mo fun cv => Op1.move (.t rfl), ⟨mo fun cv => Op1.idx hv6 U46 Z9 (.t rfl) .i64, ⟨mo fun cv => Op1.load ty9 (.t rfl), ⟨mo fun cv => Op1.call C58 (r47_number_spec _ _ _ hv7) ⟨(.t rfl), trivial⟩, ⟨mo fun cv => Op1.move (.t rfl), ⟨mo fun cv => Op1.idx hv8 U46 Z9 (.t rfl) .i64, ⟨mo fun cv => Op1.load ty9 (.t rfl), ⟨mo fun cv => Op1.call C58 (r47_number_spec _ _ _ hv9) ⟨(.t rfl), trivial⟩, ⟨mo fun cv => Op1.build (s := tapi_Id) (x := (⟨number, number1, number2⟩ : api_Id)) zapi_Id_f rfl U24 (zapi_Id_sz _ U24) ze24 ⟨_, I6, number, _, _, rfl, Z3, (.t rfl), sapi_Id_0, ⟨_, I6, number1, _, _, rfl, Z3, (.t rfl), sapi_Id_1, ⟨_, I6, number2, _, _, rfl, Z3, (.t rfl), sapi_Id_2, rfl⟩⟩⟩, ⟨mo fun cv => Op1.move (.t rfl), ⟨mo fun cv => Op1.idx hv10 U46 Z9 (.t rfl) .i64, ⟨mo fun cv => Op1.load ty9 (.t rfl), ⟨mo fun cv => Op1.call C58 (r47_number_spec _ _ _ hv11) ⟨(.t rfl), trivial⟩, ⟨mo fun cv => Op1.move (.t rfl), ⟨mo fun cv => Op1.idx hv12 U46 Z9 (.t rfl) .i64, ⟨mo fun cv => Op1.load ty9 (.t rfl), ⟨mo fun cv => Op1.call C58 (r47_number_spec _ _ _ hv13) ⟨(.t rfl), trivial⟩, ⟨mo fun cv => Op1.move (.t rfl), ⟨mo fun cv => Op1.idx hv14 U46 Z9 (.t rfl) .i64, ⟨mo fun cv => Op1.load ty9 (.t rfl), ⟨mo fun cv => Op1.call C58 (r47_number_spec _ _ _ hv15) ⟨(.t rfl), trivial⟩, ⟨mo fun cv => Op1.build (s := tapi_Id) (x := (⟨number3, number4, number5⟩ : api_Id)) zapi_Id_f rfl U24 (zapi_Id_sz _ U24) ze24 ⟨_, I6, number3, _, _, rfl, Z3, (.t rfl), sapi_Id_0, ⟨_, I6, number4, _, _, rfl, Z3, (.t rfl), sapi_Id_1, ⟨_, I6, number5, _, _, rfl, Z3, (.t rfl), sapi_Id_2, rfl⟩⟩⟩, ⟨mo fun cv => Op1.build (s := tapi_Destination) (x := (⟨(⟨number, number1, number2⟩ : api_Id), (⟨number3, number4, number5⟩ : api_Id)⟩ : api_Destination)) zapi_Destination_f rfl U36 (zapi_Destination_sz _ U36) ze36 ⟨_, tapi_Id, (⟨number, number1, number2⟩ : api_Id), _, _, rfl, Z24, (.t rfl), sapi_Destination_0, ⟨_, tapi_Id, (⟨number3, number4, number5⟩ : api_Id), _, _, rfl, Z24, (.t rfl), sapi_Destination_1, rfl⟩⟩, ⟨.inl rfl, ⟨.inl rfl, trivial⟩⟩⟩⟩⟩⟩⟩⟩⟩⟩⟩⟩⟩⟩⟩⟩⟩⟩⟩⟩⟩⟩⟩⟩⟩⟩⟩⟩⟩ ⟨⟨_, _, _, [], (fun cv => [(5, (Bx 6 true 36 (tapi_Destination.is zapi_Destination) (bk (cv 0))))]), rfl, rfl, rfl, rfl, fun _ => rfl, fun _ _ => rfl, fun cv => OpR.viaB (OpR.alloc 5 ze36)⟩, ⟨⟨_, _, _, [5], (fun cv => [(5, (Bx 6 true 36 (tapi_Destination.is (⟨(⟨number, number1, number2⟩ : api_Id), (⟨number3, number4, number5⟩ : api_Id)⟩ : api_Destination)) (bk (cv 0))))]), rfl, rfl, rfl, rfl, fun _ => rfl, fun _ _ => rfl, fun cv => OpR.viaU (OpR.storeB (b := (bk (cv 0))) 5 Z36 (Cellable.is tapi_Destination (⟨(⟨number, number1, number2⟩ : api_Id), (⟨number3, number4, number5⟩ : api_Id)⟩ : api_Destination)) rfl (.t rfl) (.t rfl))⟩, trivial⟩⟩ fun cv => Aq <| W.seq <| Aw <| Ao rfl (.loadB 5 Y36 Z36 rfl (.t rfl)) ?_
  obtain ⟨line, hv16, hm⟩ := Bs hm
  refine Ao rfl (.call C43 (r47_Line_spec _ _ _ hv16) ⟨(.t rfl), trivial⟩) <| Am rfl rfl <| Ao rfl (.neS (.t rfl) (.t rfl)) <| An <| W.cB hm (.t rfl) (fun hp18 hm => ?_) (fun hp18 hm => ?_)
  ·refine Aw <| Ao rfl (.build (s := tapi_Destination) (x := (⟨zapi_Id, zapi_Id⟩ : api_Destination)) zapi_Destination_f rfl U36 (zapi_Destination_sz _ U36) ze36 rfl) <| WL.opU (OpR.storeB (b := b) 2 Z36 (Cellable.is tapi_Destination (⟨zapi_Id, zapi_Id⟩ : api_Destination)) rfl (.t rfl) (.t rfl)) fun _ => Ao rfl (.assign .bool) <| WL.ns ?_
   cases hm
   exact W.retQ2 () rfl rfl (ResAt.cell 2 Y36 Z36 rfl (.t rfl)) (ResAt.tmp (.t rfl)) trivial
  ·refine W.skip <| Aq <| Aw <| Ao rfl (.loadB 5 Y36 Z36 rfl (.t rfl)) <| WL.opU (OpR.storeB (b := b) 2 Z36 (Cellable.is tapi_Destination (⟨(⟨number, number1, number2⟩ : api_Id), (⟨number3, number4, number5⟩ : api_Id)⟩ : api_Destination)) rfl (.t rfl) (.t rfl)) fun _ => Ao rfl (.assign .bool) <| WL.ns ?_
   cases hm
   exact W.retQ2 () rfl rfl (ResAt.cell 2 Y36 Z36 rfl (.t rfl)) (ResAt.tmp (.t rfl)) trivial

theorem r47_May_spec (n : Nat) (l : List api_Destination) (r : Bool) (hm : M.r47_May n l = some r) : FSpec Tryd.prog 16 [((tL tapi_Destination).is l)] (tB.is r) := by
 unfold M.r47_May at hm
 refine FSpec.of Tryd.func16 rfl rfl rfl fun g0 => Aw <| Ao rfl (.assign .bool) <| An <| W.seq <| Aw <| Ao rfl (.assign .i64) <| An <| W.block ?_
 obtain ⟨s1, hs2, hk3⟩ := Bs hm
 clear hm
 refine W.loop (fun m (s : Int) => M.r47_May_loop1 l m s = some s1) (fun s => [(3, (I6.is s)), (0, ((tL tapi_Destination).is l))]) (fun s => []) _ (0 : Int) hs2 ⟨.q rfl, .q rfl, trivial⟩ trivial ?_
 rintro n4 i hm
 try dsimp only at hm
 change W _ _ _ _ _ _ _ [(3, (I6.is i)), (0, ((tL tapi_Destination).is l))] []
 cases n4 with
 | zero => rw [M.r47_May_loop1.eq_1] at hm; cases hm
 | succ n4 =>
  rw [M.r47_May_loop1.eq_2] at hm
  refine W.seq <| Aw <| Am rfl rfl <| Am rfl rfl <| Ao rfl (.lenL U22 (.t rfl)) <| Ao rfl (.ltI (.t rfl) (.t rfl)) <| An <| W.cD hm (.t rfl) (fun hp6 hm => ?_) (fun hp6 hm => ?_)
  ·refine W.skip <| Aq <| W.seq <| W.block <| Aw <| Ao rfl (.assign .i64) <| An <| W.block ?_
   obtain ⟨s7, hs8, hk9⟩ := Bs hm
   clear hm
   refine W.loop (fun m (s : Int) => M.r47_May_loop2 l i m s = some s7) (fun s => [(4, (I6.is s)), (0, ((tL tapi_Destination).is l)), (3, (I6.is i))]) (fun s => []) _ (0 : Int) hs8 ⟨.q rfl, .q rfl, .q rfl, trivial⟩ trivial ?_
   rintro n10 k hm
   try dsimp only at hm
   change W _ _ _ _ _ _ _ [(4, (I6.is k)), (0, ((tL tapi_Destination).is l)), (3, (I6.is i))] []
   cases n10 with
   | zero => rw [M.r47_May_loop2.eq_1] at hm; cases hm
   | succ n10 =>
    rw [M.r47_May_loop2.eq_2] at hm
    refine W.seq <| Aw <| Am rfl rfl <| Am rfl rfl <| Ao rfl (.ltI (.t rfl) (.t rfl)) <| An <| W.cD hm (.t rfl) (fun hp12 hm => ?_) (fun hp12 hm => ?_)
    ·refine W.skip <| Aq <| W.seq <| W.block <| W.seq ?_
     obtain ⟨v, hv13, hm⟩ := Bs hm
     obtain ⟨v1, hv14, hm⟩ := Bs hm
     rcases iteD hm with ⟨hp16, hb15, hm⟩ | ⟨hp16, hb15, hm⟩
     ·refine W.draw [.c _, .c _, .c _, .c _, .c _, .c _, .c _, .c _, .c _, .c _, .c _, .c _, .c _, .c _, .c _, .c _, .c _, .c _, .c _, .c _, .c _, .c _, .c _, .c _] [([], [0]), ([], [4]), ([0, 1], []), ([2], []), ([3], []), ([], [0]), ([], [3]), ([5, 6], []), ([7], []), ([8], []), ([4, 9], []), ([10], []), ([11], [0]), ([11], [4]), ([11, 12, 13], []), ([11, 14], []), ([11, 15], []), ([11], [0]), ([11], [3]), ([11, 17, 18], []), ([11, 19], []), ([11, 20], []), ([11, 16, 21], []), ([11, 22], [])] Mx rfl rfl rfl rfl (by exact ⟨Dn (.move (.t rfl)), Dn (.move (.t rfl)), Dn (.idx hv13 U22 Z36 (.t rfl) (.t rfl)), Dn (.fieldAddr U36 rfl J24 fapi_Destination_0 (.t rfl)), Dn (.load ty24 (.t rfl)), Dn (.move (.t rfl)), Dn (.move (.t rfl)), Dn (.idx hv14 U22 Z36 (.t rfl) (.t rfl)), Dn (.fieldAddr U36 rfl J24 fapi_Destination_0 (.t rfl)), Dn (.load ty24 (.t rfl)), Dn (.eqSt (D := 2) rfl (by decide) eg24 eq24 (.t rfl) (.t rfl)), Dn (.move (.t rfl)), Dp rfl hb15, Dp rfl hb15, Dp rfl hb15, Dp rfl hb15, Dp rfl hb15, Dp rfl hb15, Dp rfl hb15, Dp rfl hb15, Dp rfl hb15, Dp rfl hb15, Dp rfl hb15, Dn (.pickT (.t rfl) hb15 .bool), trivial⟩) <| Aq <| W.condT (.t rfl) <| Aw <| Ao rfl (.assign .bool) <| WL.ns ?_
      have hr17 := Si hm
      clear hm
      subst hr17
      have hm := hk9
      try dsimp only at hm
      have hr18 := Si hm
      clear hm
      subst hr18
      have hm := hk3
      try dsimp only at hm
      cases hm
      exact W.ret1 () rfl (.t rfl) trivial
     ·obtain ⟨v2, hv19, hm⟩ := Bs hm
      obtain ⟨v3, hv20, hm⟩ := Bs hm
      refine W.draw [.c _, .c _, .c _, .c _, .c _, .c _, .c _, .c _, .c _, .c _, .c _, .c _, .c _, .c _, .c _, .c _, .c _, .c _, .c _, .c _, .c _, .c _, .c _, .c _] [([], [0]), ([], [4]), ([0, 1], []), ([2], []), ([3], []), ([], [0]), ([], [3]), ([5, 6], []), ([7], []), ([8], []), ([4, 9], []), ([10], []), ([11], [0]), ([11], [4]), ([11, 12, 13], []), ([11, 14], []), ([11, 15], []), ([11], [0]), ([11], [3]), ([11, 17, 18], []), ([11, 19], []), ([11, 20], []), ([11, 16, 21], []), ([11, 22], [])] Mx rfl rfl rfl rfl (by exact ⟨Dn (.move (.t rfl)), Dn (.move (.t rfl)), Dn (.idx hv13 U22 Z36 (.t rfl) (.t rfl)), Dn (.fieldAddr U36 rfl J24 fapi_Destination_0 (.t rfl)), Dn (.load ty24 (.t rfl)), Dn (.move (.t rfl)), Dn (.move (.t rfl)), Dn (.idx hv14 U22 Z36 (.t rfl) (.t rfl)), Dn (.fieldAddr U36 rfl J24 fapi_Destination_0 (.t rfl)), Dn (.load ty24 (.t rfl)), Dn (.eqSt (D := 2) rfl (by decide) eg24 eq24 (.t rfl) (.t rfl)), Dn (.move (.t rfl)), Dr rfl hb15 (.move (.t rfl)), Dr rfl hb15 (.move (.t rfl)), Dr rfl hb15 (.idx hv19 U22 Z36 (.t rfl) (.t rfl)), Dr rfl hb15 (.fieldAddr U36 rfl J24 fapi_Destination_1 (.t rfl)), Dr rfl hb15 (.load ty24 (.t rfl)), Dr rfl hb15 (.move (.t rfl)), Dr rfl hb15 (.move (.t rfl)), Dr rfl hb15 (.idx hv20 U22 Z36 (.t rfl) (.t rfl)), Dr rfl hb15 (.fieldAddr U36 rfl J24 fapi_Destination_1 (.t rfl)), Dr rfl hb15 (.load ty24 (.t rfl)), Dr rfl hb15 (.eqSt (D := 2) rfl (by decide) eg24 eq24 (.t rfl) (.t rfl)), Dn (.pickF (.t rfl) hb15 (.t rfl)), trivial⟩) <| Aq <| W.cD hm (.t rfl) (fun hp22 hm => ?_) (fun hp22 hm => ?_)
      ·refine Aw <| Ao rfl (.assign .bool) <| WL.ns ?_
       have hr23 := Si hm
       clear hm
       subst hr23
       have hm := hk9
       try dsimp only at hm
       have hr24 := Si hm
       clear hm
       subst hr24
       have hm := hk3
       try dsimp only at hm
       cases hm
       exact W.ret1 () rfl (.t rfl) trivial
      ·refine W.skip <| WN.block <| Aq <| W.region <| WL.mv rfl rfl ?_
       obtain ⟨v4, hv25, hm⟩ := Bs hm
       exact Ao rfl (.addC hv25 (.t rfl) .i64) <| Ag rfl rfl <| WL.nil <| WN.again n10 v4 (Nat.lt_succ_self n10) hm ⟨.q rfl, .q rfl, .q rfl, trivial⟩ trivial
    ·refine W.exit rfl ?_
     have hr26 := Si hm
     clear hm
     subst hr26
     have hm := hk9
     try dsimp only at hm
     refine WN.block <| Aq <| W.region <| WL.mv rfl rfl ?_
     obtain ⟨v5, hv27, hm⟩ := Bs hm
     exact Ao rfl (.addC hv27 (.t rfl) .i64) <| Ag rfl rfl <| WL.nil <| WN.again n4 v5 (Nat.lt_succ_self n4) hm ⟨.q rfl, .q rfl, trivial⟩ trivial
  ·refine W.exit rfl ?_
   have hr28 := Si hm
   clear hm
   subst hr28
   have hm := hk3
   try dsimp only at hm
   refine Aq <| Aw <| Am rfl rfl <| Ao rfl (.lenL U22 (.t rfl)) <| Ao rfl (.leI (.t rfl) .i64) <| Ag rfl rfl <| WL.ns ?_
   cases hm
   exact W.ret1 () rfl (.t rfl) trivial

theorem r47_Parse_spec (n : Nat) (s0_ : Str) (r : (List api_Destination) × Int × Int) (hm : M.r47_Parse n s0_ = some r) : FSpec Tryd.prog 26 [(tS.is s0_)] (Asn.tuple3 ((tL tapi_Destination).is r.1) (I6.is r.2.1) (I6.is r.2.2)) := by
 unfold M.r47_Parse at hm
 refine FSpec.of Tryd.func26 rfl rfl rfl fun g0 => Aw <| Ao rfl (.assign (.nil (t := tapi_Destination))) <| Ao rfl (.assign .i64) <| Ao rfl (.assign .i64) <| Ar <| WL.opR rfl (OpR.buildSlice (n := 0) (ys := []) (z := zapi_Destination) (xs := ([] : List api_Destination)) 10 U22 el36 ze36 trivial (by simp) (by decide) rfl) fun k => Ag rfl rfl <| Ar <| Ao rfl (.assign .i64) <| An <| W.seq <| Aw <| Ao rfl (.assign .i64) <| An <| W.block ?_
 obtain ⟨s1, hs2, hk3⟩ := Bs hm
 clear hm
 refine W.loop (fun m (s : ((List api_Destination) × Int × Int) × Tok) => M.r47_Parse_loop1 s0_ m s.1.1 s.1.2.1 s.1.2.2 = some s1) (fun s => [(5, (tO tapi_Destination s.2 s.1.1)), (6, (I6.is s.1.2.1)), (7, (I6.is s.1.2.2)), (0, (tS.is s0_))]) (fun s => [(10, Dec.Own tapi_Destination 36 s.2 s.1.1.length)]) _ ((([] : List api_Destination), (0 : Int), (0 : Int)), k) hs2 ⟨.q rfl, .q rfl, .q rfl, .q rfl, trivial⟩ ⟨rfl, rfl, trivial⟩ ?_
 rintro n4 ⟨⟨l, from0_, i⟩, k1⟩ hm
 try dsimp only at hm
 change W _ _ _ _ _ _ _ [(5, (tO tapi_Destination k1 l)), (6, (I6.is from0_)), (7, (I6.is i)), (0, (tS.is s0_))] [(10, Dec.Own tapi_Destination 36 k1 l.length)]
 cases n4 with
 | zero => rw [M.r47_Parse_loop1.eq_1] at hm; cases hm
 | succ n4 =>
  rw [M.r47_Parse_loop1.eq_2] at hm
  refine W.seq <| Aw <| Am rfl rfl <| Am rfl rfl <| Ao rfl (.lenS U9 (.t rfl)) <| Ao rfl (.ltI (.t rfl) (.t rfl)) <| An <| W.cD hm (.t rfl) (fun hp6 hm => ?_) (fun hp6 hm => ?_)
  ·refine W.skip <| Aq <| W.seq <| W.block <| W.seq <| Aw <| Am rfl rfl <| WL.mv rfl rfl ?_
   obtain ⟨b, hv7, hm⟩ := Bs hm
   refine Ao rfl (.sidx hv7 U9 (.t rfl) (.t rfl)) <| Ao rfl (.neI (.t rfl) (.int (inR8.2 (by omega)))) <| An <| W.cD hm (.t rfl) (fun hp9 hm => ?_) (fun hp9 hm => ?_)
   ·exact W.exit rfl <| Aq <| W.region <| Am rfl rfl <| WL.lenS (s := 0) (.t rfl) fun hl10 => Ao rfl (.addI1 (.t rfl) .i64 hp6 hl10) <| Ag rfl rfl <| WL.nil <| WN.again n4 ((l, from0_, i + 1), k1) (Nat.lt_succ_self n4) hm ⟨.q rfl, .q rfl, .q rfl, .q rfl, trivial⟩ ⟨rfl, rfl, trivial⟩
   ·refine W.skip <| Aq <| Aw <| Am rfl rfl <| Am rfl rfl <| WL.mv rfl rfl ?_
    obtain ⟨v, hv11, hm⟩ := Bs hm
    refine Ao rfl (.sslc hv11 U9 (.t rfl) (.t rfl) (.t rfl)) ?_
    obtain ⟨read, hv12, hm⟩ := Bs hm
    refine Ao rfl (.call C39 (r47_Read_spec _ _ _ hv12) ⟨(.t rfl), trivial⟩) <| Am rfl rfl <| Ao rfl (.extract0 (.t rfl)) <| Ao rfl (.extract1 (.t rfl)) <| WL.opR rfl (OpR.alloc 8 ze36) fun b1 => WL.opU (OpR.storeB (b := b1) 8 Z36 (Cellable.is tapi_Destination read.1) rfl (.t rfl) (.t rfl)) fun _ => WL.sealed (t := tapi_Destination) (u := read.1) 8 8 rfl rfl <| Ag rfl rfl <| An <| W.seq <| Aw <| Am rfl rfl <| Ao rfl (.notB (.t rfl)) <| An <| W.cR hm (.t rfl) (fun hp14 hm => ?_) (fun hp14 hm => ?_)
    ·refine Aw <| Am rfl rfl <| Ao rfl (.lenL U22 (Opd.own (.t rfl))) <| Ao rfl (.assign (.nil (t := tapi_Destination))) <| Ag rfl rfl <| Ao rfl (.assign .i64) <| WL.ns ?_
     have hr15 := Si hm
     clear hm
     subst hr15
     have hm := hk3
     try dsimp only at hm
     cases hm
     exact W.ret3 () rfl rfl (.t rfl) (.t rfl) (.t rfl) trivial
    ·refine W.skip <| Aq <| W.seq <| W.seq ?_
     obtain ⟨out, hv16, hm⟩ := Bs hm
     obtain ⟨out1, hv17, hm⟩ := Bs hm
     obtain ⟨may, hv18, hm⟩ := Bs hm
     rcases iteR hm with ⟨hp20, hb19, hm⟩ | ⟨hp20, hb19, hm⟩
     ·refine W.weakR (res' := [(10, Dec.Own tapi_Destination 36 k1 l.length)]) ⟨rfl, rfl, trivial⟩ <| W.drawM [.f (fun cv => (tO tapi_Destination (cv 0) ([] : List api_Destination))), .c (tO tapi_Destination k1 l), .f (fun cv => (tO tapi_Destination (cv 1) out)), .c (tapi_Destination.is read.1), .c ((tL tapi_Destination).is [read.1]), .f (fun cv => (tO tapi_Destination (cv 2) out1)), .c (tB.is may), .c (tB.is (!may)), .c (tB.is (!may)), .c (tO tapi_Destination k1 l), .c (I6.is (l.length : Int)), .c (tB.is (decide ((l.length : Int) < (4096 : Int)))), .c (tB.is (decide ((l.length : Int) < (4096 : Int))))] [([], []), ([], [5]), ([0, 1], []), ([], [8]), ([3], []), ([2, 4], []), ([5], []), ([6], []), ([7], []), ([8], [5]), ([8, 9], []), ([8, 10], []), ([8, 11], [])] [0, 2, 5] [[true], [], [false, true], [], [], [false, false, true], [], [], [], [], [], [], []] (fun m cv => match m with | 0 => [(10, Dec.Own tapi_Destination 36 k1 l.length)] | 1 => [(33, Dec.Own tapi_Destination 36 (cv 0) ([] : List api_Destination).length), (10, Dec.Own tapi_Destination 36 k1 l.length)] | 2 => [(33, Dec.Own tapi_Destination 36 (cv 1) out.length), (10, Dec.Own tapi_Destination 36 k1 l.length)] | _ => [(33, Dec.Own tapi_Destination 36 (cv 2) out1.length), (10, Dec.Own tapi_Destination 36 k1 l.length)]) (fun _ => none) Mx rfl rfl rfl rfl rfl ⟨fun m hm c t => by simp only [DA.at, upd_dep (r := [true]) (j := 0) rfl hm], ⟨fun _ _ _ _ => rfl, ⟨fun m hm c t => by simp only [DA.at, upd_dep (r := [false, true]) (j := 1) rfl hm], ⟨fun _ _ _ _ => rfl, ⟨fun _ _ _ _ => rfl, ⟨fun m hm c t => by simp only [DA.at, upd_dep (r := [false, false, true]) (j := 2) rfl hm], ⟨fun _ _ _ _ => rfl, ⟨fun _ _ _ _ => rfl, ⟨fun _ _ _ _ => rfl, ⟨fun _ _ _ _ => rfl, ⟨fun _ _ _ _ => rfl, ⟨fun _ _ _ _ => rfl, ⟨fun _ _ _ _ => rfl, trivial⟩⟩⟩⟩⟩⟩⟩⟩⟩⟩⟩⟩⟩ rfl ⟨.inl rfl, ⟨mo fun cv => Op1.move (.t rfl), ⟨.inl rfl, ⟨mo fun cv => Op1.load ty36 (.t rfl), ⟨mo fun cv => Op1.buildSlice (n := 1) (ys := [(0, read.1)]) (z := zapi_Destination) (xs := [read.1]) U22 el36 ze36 ⟨rfl, (.t rfl), trivial⟩ (by simp) (by decide) rfl, ⟨.inl rfl, ⟨mo fun cv => Op1.call C16 (r47_May_spec _ _ _ hv18) ⟨(Opd.own (.t rfl)), trivial⟩, ⟨mo fun cv => Op1.notB (.t rfl), ⟨mo fun cv => Op1.move (.t rfl), ⟨mo fun cv => (dr rfl rfl rfl hb19 (Op1.move (.t rfl))), ⟨mo fun cv => (dr rfl rfl rfl hb19 (Op1.lenL U22 (Opd.own (.t rfl)))), ⟨mo fun cv => (dr rfl rfl rfl hb19 (Op1.ltI (.t rfl) .i64)), ⟨mo fun cv => Op1.pickT (.t rfl) hb19 (.t rfl), trivial⟩⟩⟩⟩⟩⟩⟩⟩⟩⟩⟩⟩⟩ ⟨⟨_, _, _, [], (fun cv => [(33, Dec.Own tapi_Destination 36 (cv 0) ([] : List api_Destination).length)]), rfl, rfl, rfl, rfl, fun _ => rfl, fun _ _ => rfl, fun cv => OpR.buildSlice (n := 0) (ys := []) (z := zapi_Destination) (xs := ([] : List api_Destination)) 33 U22 el36 ze36 trivial (by simp) (by decide) rfl⟩, ⟨⟨_, _, _, [33], (fun cv => [(33, Dec.Own tapi_Destination 36 (cv 1) out.length)]), rfl, rfl, rfl, rfl, fun _ => rfl, fun _ _ => rfl, fun cv => OpR.appC (key := 33) hv16 U22 el36 (.t rfl) (Opd.own (.t rfl)) rfl⟩, ⟨⟨_, _, _, [33], (fun cv => [(33, Dec.Own tapi_Destination 36 (cv 2) out1.length)]), rfl, rfl, rfl, rfl, fun _ => rfl, fun _ _ => rfl, fun cv => OpR.appC (key := 33) hv17 U22 el36 (.t rfl) (.t rfl) rfl⟩, trivial⟩⟩⟩ fun cv => Aq <| W.cD hm (.t rfl) (fun hp22 hm => ?_) (fun hp22 hm => ?_)
      ·refine Aw <| Am rfl rfl <| Ao rfl (.lenL U22 (Opd.own (.t rfl))) <| Ao rfl (.assign (.nil (t := tapi_Destination))) <| Ag rfl rfl <| Ao rfl (.assign .i64) <| WL.ns ?_
       have hr23 := Si hm
       clear hm
       subst hr23
       have hm := hk3
       try dsimp only at hm
       cases hm
       exact W.ret3 () rfl rfl (.t rfl) (.t rfl) (.t rfl) trivial
      ·refine W.skip <| Aq <| W.seq <| Aw <| Am rfl rfl <| Ao rfl (.lenL U22 (Opd.own (.t rfl))) <| Ao rfl (.geI (.t rfl) .i64) <| An <| W.cD hm (.t rfl) (fun hp25 hm => ?_) (fun hp25 hm => ?_)
       ·refine Aw <| Am rfl rfl <| Ao rfl (.lenL U22 (Opd.own (.t rfl))) <| Ao rfl (.assign (.nil (t := tapi_Destination))) <| Ag rfl rfl <| Ao rfl (.assign .i64) <| WL.ns ?_
        have hr26 := Si hm
        clear hm
        subst hr26
        have hm := hk3
        try dsimp only at hm
        cases hm
        exact W.ret3 () rfl rfl (.t rfl) (.t rfl) (.t rfl) trivial
       ·refine W.skip <| Aq <| Aw <| Am rfl rfl <| Ao rfl (.load ty36 (.t rfl)) <| Ao rfl (.buildSlice (n := 1) (ys := [(0, read.1)]) (z := zapi_Destination) (xs := [read.1]) U22 el36 ze36 ⟨rfl, (.t rfl), trivial⟩ (by simp) (by decide) rfl) ?_
        obtain ⟨out2, hv27, hm⟩ := Bs hm
        refine WL.opR rfl (OpR.appC (key := 10) hv27 U22 el36 (.t rfl) (.t rfl) rfl) fun k2 => Ag rfl rfl <| WL.nr1 <| Am rfl rfl <| WL.lenS (s := 0) (.t rfl) fun hl28 => Ao rfl (.addI1 (.t rfl) .i64 hp6 hl28) <| Ag rfl rfl <| WL.nil <| WN.block <| Aq <| W.region <| Am rfl rfl <| WL.lenS (s := 0) (.t rfl) fun hl29 => Ao rfl (.addI1 (.t rfl) .i64 hp6 hl29) <| Ag rfl rfl <| WL.nil ?_
        exact WN.again n4 ((out2, i + 1, i + 1), k2) (Nat.lt_succ_self n4) hm ⟨.q rfl, .q rfl, .q rfl, .q rfl, trivial⟩ ⟨rfl, rfl, trivial⟩
     ·refine W.weakR (res' := [(10, Dec.Own tapi_Destination 36 k1 l.length)]) ⟨rfl, rfl, trivial⟩ <| W.drawM [.f (fun cv => (tO tapi_Destination (cv 0) ([] : List api_Destination))), .c (tO tapi_Destination k1 l), .f (fun cv => (tO tapi_Destination (cv 1) out)), .c (tapi_Destination.is read.1), .c ((tL tapi_Destination).is [read.1]), .f (fun cv => (tO tapi_Destination (cv 2) out1)), .c (tB.is may), .c (tB.is (!may)), .c (tB.is (!may)), .c Un, .c Un, .c Un, .c (tB.is false)] [([], []), ([], [5]), ([0, 1], []), ([], [8]), ([3], []), ([2, 4], []), ([5], []), ([6], []), ([7], []), ([8], [5]), ([8, 9], []), ([8, 10], []), ([8, 11], [])] [0, 2, 5] [[true], [], [false, true], [], [], [false, false, true], [], [], [], [], [], [], []] (fun m cv => match m with | 0 => [(10, Dec.Own tapi_Destination 36 k1 l.length)] | 1 => [(33, Dec.Own tapi_Destination 36 (cv 0) ([] : List api_Destination).length), (10, Dec.Own tapi_Destination 36 k1 l.length)] | 2 => [(33, Dec.Own tapi_Destination 36 (cv 1) out.length), (10, Dec.Own tapi_Destination 36 k1 l.length)] | _ => [(33, Dec.Own tapi_Destination 36 (cv 2) out1.length), (10, Dec.Own tapi_Destination 36 k1 l.length)]) (fun _ => none) Mx rfl rfl rfl rfl rfl ⟨fun m hm c t => by simp only [DA.at, upd_dep (r := [true]) (j := 0) rfl hm], ⟨fun _ _ _ _ => rfl, ⟨fun m hm c t => by simp only [DA.at, upd_dep (r := [false, true]) (j := 1) rfl hm], ⟨fun _ _ _ _ => rfl, ⟨fun _ _ _ _ => rfl, ⟨fun m hm c t => by simp only [DA.at, upd_dep (r := [false, false, true]) (j := 2) rfl hm], ⟨fun _ _ _ _ => rfl, ⟨fun _ _ _ _ => rfl, ⟨fun _ _ _ _ => rfl, ⟨fun _ _ _ _ => rfl, ⟨fun _ _ _ _ => rfl, ⟨fun _ _ _ _ => rfl, ⟨fun _ _ _ _ => rfl, trivial⟩⟩⟩⟩⟩⟩⟩⟩⟩⟩⟩⟩⟩ rfl ⟨.inl rfl, ⟨mo fun cv => Op1.move (.t rfl), ⟨.inl rfl, ⟨mo fun cv => Op1.load ty36 (.t rfl), ⟨mo fun cv => Op1.buildSlice (n := 1) (ys := [(0, read.1)]) (z := zapi_Destination) (xs := [read.1]) U22 el36 ze36 ⟨rfl, (.t rfl), trivial⟩ (by simp) (by decide) rfl, ⟨.inl rfl, ⟨mo fun cv => Op1.call C16 (r47_May_spec _ _ _ hv18) ⟨(Opd.own (.t rfl)), trivial⟩, ⟨mo fun cv => Op1.notB (.t rfl), ⟨mo fun cv => Op1.move (.t rfl), ⟨mo fun cv => (dp rfl rfl rfl hb19), ⟨mo fun cv => (dp rfl rfl rfl hb19), ⟨mo fun cv => (dp rfl rfl rfl hb19), ⟨mo fun cv => Op1.pickF (.t rfl) hb19 .bool, trivial⟩⟩⟩⟩⟩⟩⟩⟩⟩⟩⟩⟩⟩ ⟨⟨_, _, _, [], (fun cv => [(33, Dec.Own tapi_Destination 36 (cv 0) ([] : List api_Destination).length)]), rfl, rfl, rfl, rfl, fun _ => rfl, fun _ _ => rfl, fun cv => OpR.buildSlice (n := 0) (ys := []) (z := zapi_Destination) (xs := ([] : List api_Destination)) 33 U22 el36 ze36 trivial (by simp) (by decide) rfl⟩, ⟨⟨_, _, _, [33], (fun cv => [(33, Dec.Own tapi_Destination 36 (cv 1) out.length)]), rfl, rfl, rfl, rfl, fun _ => rfl, fun _ _ => rfl, fun cv => OpR.appC (key := 33) hv16 U22 el36 (.t rfl) (Opd.own (.t rfl)) rfl⟩, ⟨⟨_, _, _, [33], (fun cv => [(33, Dec.Own tapi_Destination 36 (cv 2) out1.length)]), rfl, rfl, rfl, rfl, fun _ => rfl, fun _ _ => rfl, fun cv => OpR.appC (key := 33) hv17 U22 el36 (.t rfl) (.t rfl) rfl⟩, trivial⟩⟩⟩ fun cv => Aq <| W.condF (.t rfl) <| W.skip <| Aq <| W.seq <| Aw <| Am rfl rfl <| Ao rfl (.lenL U22 (Opd.own (.t rfl))) <| Ao rfl (.geI (.t rfl) .i64) <| An <| W.cD hm (.t rfl) (fun hp31 hm => ?_) (fun hp31 hm => ?_)
      ·refine Aw <| Am rfl rfl <| Ao rfl (.lenL U22 (Opd.own (.t rfl))) <| Ao rfl (.assign (.nil (t := tapi_Destination))) <| Ag rfl rfl <| Ao rfl (.assign .i64) <| WL.ns ?_
       have hr32 := Si hm
       clear hm
       subst hr32
       have hm := hk3
       try dsimp only at hm
       cases hm
       exact W.ret3 () rfl rfl (.t rfl) (.t rfl) (.t rfl) trivial
      ·refine W.skip <| Aq <| Aw <| Am rfl rfl <| Ao rfl (.load ty36 (.t rfl)) <| Ao rfl (.buildSlice (n := 1) (ys := [(0, read.1)]) (z := zapi_Destination) (xs := [read.1]) U22 el36 ze36 ⟨rfl, (.t rfl), trivial⟩ (by simp) (by decide) rfl) ?_
       obtain ⟨out3, hv33, hm⟩ := Bs hm
       refine WL.opR rfl (OpR.appC (key := 10) hv33 U22 el36 (.t rfl) (.t rfl) rfl) fun k3 => Ag rfl rfl <| WL.nr1 <| Am rfl rfl <| WL.lenS (s := 0) (.t rfl) fun hl34 => Ao rfl (.addI1 (.t rfl) .i64 hp6 hl34) <| Ag rfl rfl <| WL.nil <| WN.block <| Aq <| W.region <| Am rfl rfl <| WL.lenS (s := 0) (.t rfl) fun hl35 => Ao rfl (.addI1 (.t rfl) .i64 hp6 hl35) <| Ag rfl rfl <| WL.nil ?_
       exact WN.again n4 ((out3, i + 1, i + 1), k3) (Nat.lt_succ_self n4) hm ⟨.q rfl, .q rfl, .q rfl, .q rfl, trivial⟩ ⟨rfl, rfl, trivial⟩
  ·refine W.exit rfl ?_
   have hr36 := Si hm
   clear hm
   subst hr36
   have hm := hk3
   try dsimp only at hm
   refine Aq <| W.seq <| Aw <| Am rfl rfl <| Am rfl rfl <| Ao rfl (.lenS U9 (.t rfl)) <| Ao rfl (.ltI (.t rfl) (.t rfl)) <| An <| W.cD hm (.t rfl) (fun hp38 hm => ?_) (fun hp38 hm => ?_)
   ·refine Aw <| Am rfl rfl <| Ao rfl (.lenL U22 (Opd.own (.t rfl))) <| Ao rfl (.assign (.nil (t := tapi_Destination))) <| Ag rfl rfl <| Ao rfl (.assign .i64) <| WL.ns ?_
    cases hm
    exact W.ret3 () rfl rfl (.t rfl) (.t rfl) (.t rfl) trivial
   ·refine W.skip <| Aq <| Aw <| Am rfl rfl <| Am rfl rfl <| Ao rfl (.lenL U22 (Opd.own (.t rfl))) <| Ag rfl rfl <| Ag rfl rfl <| Ao rfl (.assign .i64) <| WL.ns ?_
    cases hm
    exact W.ret3 () rfl rfl (Opd.own (.t rfl)) (.t rfl) (.t rfl) trivial

theorem law47_DestinationsParse_spec (n : Nat) (s0_ : Str) (r : Bool) (hm : M.law47_DestinationsParse n s0_ = some r) : FSpecR Tryd.prog 8 [(tS.is s0_)] [(700000, GlE 0), (700001, GlI 1), (700002, GlI 2), (700005, GlT Tryd.prog "internal/strconv.uint64pow10" .u64 Lib.pow10Tab)] (fun _ : Unit => (tB.is r)) (fun _ => []) := by
 unfold M.law47_DestinationsParse at hm
 refine FSpecR.of Tryd.func8 rfl rfl rfl fun g0 => Aw <| Ao rfl (.assign .bool) <| An <| W.seq ?_
 obtain ⟨s1, hs2, hk3⟩ := Bs hm
 clear hm
 refine W.join (fun s : Bool => s = s1) (fun s => [(15, (tB.is s)), (0, (tS.is s0_))]) (fun s => [(700000, GlE 0), (700001, GlI 1), (700002, GlI 2), (700005, GlT Tryd.prog "internal/strconv.uint64pow10" .u64 Lib.pow10Tab)]) ?_ ?_
 ·rintro v hj22
  try dsimp only at hj22
  subst hj22
  have hm := hk3
  clear hk3
  try dsimp only at hm
  change W _ _ _ _ _ _ _ [(15, (tB.is v)), (0, (tS.is s0_))] [(700000, GlE 0), (700001, GlI 1), (700002, GlI 2), (700005, GlT Tryd.prog "internal/strconv.uint64pow10" .u64 Lib.pow10Tab)]
  refine W.cB hm (.t rfl) (fun hp8 hm => ?_) (fun hp8 hm => ?_)
  ·refine W.sr ?_
   obtain ⟨awake1, hv9, hm⟩ := Bs hm
   refine Ao rfl (.callG (rin := [(700005, GlT Tryd.prog "internal/strconv.uint64pow10" .u64 Lib.pow10Tab)]) C10 (law47_awake_spec _ _ hv9) ⟨rfl, trivial⟩ ⟨rfl, rfl, trivial⟩ trivial) <| Ag rfl rfl <| WL.ns ?_
   cases hm
   exact W.ret1 () rfl (.t rfl) trivial
  ·refine W.skip <| Aq <| Aw <| WL.mv rfl rfl ?_
   obtain ⟨parse, hv10, hm⟩ := Bs hm
   refine Ao rfl (.callG (rin := [(700000, GlE 0), (700001, GlI 1), (700002, GlI 2), (700005, GlT Tryd.prog "internal/strconv.uint64pow10" .u64 Lib.pow10Tab)]) C25 (destinations_Parse_spec _ _ _ hv10) ⟨rfl, rfl, rfl, rfl, trivial⟩ ⟨rfl, rfl, ⟨rfl, rfl, ⟨rfl, rfl, ⟨rfl, rfl, trivial⟩⟩⟩⟩ ⟨(.t rfl), trivial⟩) <| Am rfl rfl <| Ao rfl (.extract30 (.t rfl)) <| Ao rfl (.extract31 (.t rfl)) <| Ao rfl (.extract32 (.t rfl)) <| Ag rfl rfl <| Ag rfl rfl <| Ag rfl rfl <| Ar <| WL.mv rfl rfl ?_
   obtain ⟨parse1, hv11, hm⟩ := Bs hm
   refine Ao rfl (.call C26 (r47_Parse_spec _ _ _ hv11) ⟨(.t rfl), trivial⟩) <| Am rfl rfl <| Ao rfl (.extract30 (.t rfl)) <| Ao rfl (.extract31 (.t rfl)) <| Ao rfl (.extract32 (.t rfl)) <| Ag rfl rfl <| Ag rfl rfl <| Ag rfl rfl <| Ar <| Am rfl rfl <| Am rfl rfl <| Ao rfl (.eqI (.t rfl) (.t rfl)) <| WL.mv rfl rfl ?_
   rcases iteD hm with ⟨hp13, hb12, hm⟩ | ⟨hp13, hb12, hm⟩
   ·refine Ax rfl hb12 (.move (.t rfl)) <| Ax rfl hb12 (.move (.t rfl)) <| Ax rfl hb12 (.eqI (.t rfl) (.t rfl)) <| Ao rfl (.pickT (.t rfl) hb12 (.t rfl)) <| WL.mv rfl rfl ?_
    rcases iteD hm with ⟨hp15, hb14, hm⟩ | ⟨hp15, hb14, hm⟩
    ·refine Ax rfl hb14 (.move (.t rfl)) <| Ax rfl hb14 (.move (.t rfl)) ?_
     obtain ⟨same, hv16, hm⟩ := Bs hm
     refine Ax rfl hb14 (.call C18 (r47_Same_spec _ _ _ _ hv16) ⟨(.t rfl), (.t rfl), trivial⟩) <| Ao rfl (.pickT (.t rfl) hb14 (.t rfl)) <| WL.mv rfl rfl ?_
     rcases iteB hm with ⟨hp18, hb17, hm⟩ | ⟨hp18, hb17, hm⟩
     ·refine Ax rfl hb17 (.move (.t rfl)) <| Ax rfl hb17 (.neI (.t rfl) .i64) <| Ax rfl hb17 (.move (.t rfl)) ?_
      rcases iteD hm with ⟨hp20, hb19, hm⟩ | ⟨hp20, hb19, hm⟩
      ·refine Ap rfl hb19 <| Ap rfl hb19 <| Ap rfl hb19 <| Ap rfl hb19 <| Ax rfl hb17 (.pickT (.t rfl) hb19 .bool) <| Ao rfl (.pickT (.t rfl) hb17 (.t rfl)) <| Ag rfl rfl <| WL.ns ?_
       cases hm
       exact W.ret1 () rfl (.t rfl) trivial
      ·refine Ax rfl hb19 (.move (.t rfl)) ?_
       obtain ⟨format, hv21, hm⟩ := Bs hm
       refine Ax rfl hb19 (.callG (rin := [(700005, GlT Tryd.prog "internal/strconv.uint64pow10" .u64 Lib.pow10Tab)]) C27 (destinations_Format_spec _ _ hv21) ⟨rfl, trivial⟩ ⟨rfl, rfl, trivial⟩ ⟨(.t rfl), trivial⟩) <| Ax rfl hb19 (.move (.t rfl)) <| Ax rfl hb19 (.eqS (.t rfl) (.t rfl)) <| Ax rfl hb17 (.pickF (.t rfl) hb19 (.t rfl)) <| Ao rfl (.pickT (.t rfl) hb17 (.t rfl)) <| Ag rfl rfl <| WL.ns ?_
       cases hm
       exact W.ret1 () rfl (.t rfl) trivial
     ·refine Ap rfl hb17 <| Ap rfl hb17 <| Ap rfl hb17 <| WL.pass2 rfl rfl rfl rfl rfl rfl <| WL.pass2 rfl rfl rfl rfl rfl rfl <| WL.pass2 rfl rfl rfl rfl rfl rfl <| WL.pass2 rfl rfl rfl rfl rfl rfl <| Ap rfl hb17 <| Ao rfl (.pickF (.t rfl) hb17 .bool) <| Ag rfl rfl <| WL.ns ?_
      cases hm
      exact W.ret1 () rfl (.t rfl) trivial
    ·refine Ap rfl hb14 <| Ap rfl hb14 <| Ap rfl hb14 <| Ao rfl (.pickF (.t rfl) hb14 .bool) <| Am rfl rfl <| Ap rfl rfl <| Ap rfl rfl <| Ap rfl rfl <| WL.pass2 rfl rfl rfl rfl rfl rfl <| WL.pass2 rfl rfl rfl rfl rfl rfl <| WL.pass2 rfl rfl rfl rfl rfl rfl <| WL.pass2 rfl rfl rfl rfl rfl rfl <| Ap rfl rfl <| Ao rfl (.pickF (.t rfl) rfl .bool) <| Ag rfl rfl <| WL.ns ?_
     cases hm
     exact W.ret1 () rfl (.t rfl) trivial
   ·refine Ap rfl hb12 <| Ap rfl hb12 <| Ap rfl hb12 <| Ao rfl (.pickF (.t rfl) hb12 .bool) <| Am rfl rfl <| Ap rfl rfl <| Ap rfl rfl <| Ap rfl rfl <| Ao rfl (.pickF (.t rfl) rfl .bool) <| Am rfl rfl <| Ap rfl rfl <| Ap rfl rfl <| Ap rfl rfl <| WL.pass2 rfl rfl rfl rfl rfl rfl <| WL.pass2 rfl rfl rfl rfl rfl rfl <| WL.pass2 rfl rfl rfl rfl rfl rfl ?_
    refine WL.pass2 rfl rfl rfl rfl rfl rfl <| Ap rfl rfl <| Ao rfl (.pickF (.t rfl) rfl .bool) <| Ag rfl rfl <| WL.ns ?_
    cases hm
    exact W.ret1 () rfl (.t rfl) trivial
 ·have hm := hs2
  clear hs2
  refine W.region ?_
  obtain ⟨awake, hv4, hm⟩ := Bs hm
  refine Ao rfl (.callG (rin := [(700005, GlT Tryd.prog "internal/strconv.uint64pow10" .u64 Lib.pow10Tab)]) C10 (law47_awake_spec _ _ hv4) ⟨rfl, trivial⟩ ⟨rfl, rfl, trivial⟩ trivial) <| Ao rfl (.notB (.t rfl)) <| WL.mv rfl rfl ?_
  rcases iteR hm with ⟨hp6, hb5, hm⟩ | ⟨hp6, hb5, hm⟩
  ·exact Ap rfl hb5 <| Ap rfl hb5 <| Ap rfl hb5 <| Ao rfl (.pickT (.t rfl) hb5 .bool) <| WL.nil <| WN.meet true (Si hm) ⟨.q rfl, .q rfl, trivial⟩ ⟨rfl, rfl, ⟨rfl, rfl, ⟨rfl, rfl, ⟨rfl, rfl, trivial⟩⟩⟩⟩
  ·exact Ax rfl hb5 (.move (.t rfl)) <| Ax rfl hb5 (.lenS U9 (.t rfl)) <| Ax rfl hb5 (.gtI (.t rfl) .i64) <| Ao rfl (.pickF (.t rfl) hb5 (.t rfl)) <| WL.nil <| WN.meet (decide ((4000 : Int) < (s0_.length : Int))) (Si hm) ⟨.q rfl, .q rfl, trivial⟩ ⟨rfl, rfl, ⟨rfl, rfl, ⟨rfl, rfl, ⟨rfl, rfl, trivial⟩⟩⟩⟩

end Go.Proofs.YtdnemlcoeecbjaaDoor
