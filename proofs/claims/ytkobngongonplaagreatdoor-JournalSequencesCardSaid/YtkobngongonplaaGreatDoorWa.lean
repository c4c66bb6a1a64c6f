/-
  The code does what the models say: written by program.
-/
import Derived.Test.YtkobngongonplaaGreatDoorBd
set_option linter.unusedVariables false
set_option linter.unusedSimpArgs false
namespace Go.Proofs.YtkobngongonplaaGreatDoor
open Go Go.Dec
set_option maxRecDepth 100000
set_option maxHeartbeats 4000000
theorem pagestore_New_spec  (r : Option pagestore_Store) (hm : M.pagestore_New  = some r) : FSpecR Tryz.prog 8 [] [] (fun kx : Nat × Tok => (ObP kx r)) (fun kx : Nat × Tok => [(88888, ObR tpagestore_Store_k0 56 tS 9 (fun x : pagestore_Store => x.pages_) kx r)]) := by
 unfold M.pagestore_New at hm
 refine FSpecR.of Tryz.func8 rfl rfl rfl fun g0 => Aw <| Ao rfl (.assign (show Opd _ (Operand.const (Value.pointer none)) (Asn.eq (Value.pointer none)) from fun _ _ _ => rfl)) <| Ar <| WL.addNil (t := tS) (E := 9) 1 <| Ao rfl (.build (s := (tpagestore_Store_k0 none)) (x := (⟨([] : List Str), (0 : Int), (-1 : Int), (-1 : Int), false⟩ : pagestore_Store)) zpagestore_Store_f rfl Tryz.underlying56 (zpagestore_Store_sz _ Tryz.underlying56) zepagestore_Store_k0 ⟨_, I6, (-1 : Int), _, _, rfl, Z3, .i64, (spagestore_Store_k0_2 none), ⟨_, I6, (-1 : Int), _, _, rfl, Z3, .i64, (spagestore_Store_k0_3 none), rfl⟩⟩) <| WL.opR rfl (OpR.boxB 2 (Cellable.is (tpagestore_Store_k0 (none : Tok)) (⟨([] : List Str), (0 : Int), (-1 : Int), (-1 : Int), false⟩ : pagestore_Store)) (.t rfl)) fun b => Ag rfl rfl <| WL.nil <| WN.weakR (res' := [(1, Dec.Own tS 9 (none : Tok) ([] : List Str).length), (2, (Bx 5 true 56 ((tpagestore_Store_k0 (none : Tok)).is (⟨([] : List Str), (0 : Int), (-1 : Int), (-1 : Int), false⟩ : pagestore_Store)) b))]) ⟨rfl, rfl, ⟨rfl, rfl, trivial⟩⟩ <| WN.rekey (res' := [(1000002, Dec.Own tS 9 (none : Tok) ([] : List Str).length), (2, (Bx 5 true 56 ((tpagestore_Store_k0 (none : Tok)).is (⟨([] : List Str), (0 : Int), (-1 : Int), (-1 : Int), false⟩ : pagestore_Store)) b))]) rfl <| WN.seq ?_
 have hr := Si hm
 clear hm
 subst hr
 exact W.obClose (k1 := 2) (k2 := 1000002) tpagestore_Store_k0 tS (fun x : pagestore_Store => x.pages_) (b, (none : Tok)) (⟨([] : List Str), (0 : Int), (-1 : Int), (-1 : Int), false⟩ : pagestore_Store) 0 88888 rfl rfl (by decide) rfl <| W.ret1 (b, (none : Tok)) rfl (.t rfl) ⟨rfl, rfl, trivial⟩
theorem pagestore_Store_Failed_spec (s0_ : pagestore_Store) (b : Nat) (k : Tok) (r : Bool) (hm : M.pagestore_Store_Failed s0_ = some r) : FSpecR Tryz.prog 21 [(Bp b 0)] [(0, (Bx 5 true 56 ((tpagestore_Store_k0 k).is s0_) b)), (1000000, Dec.Own tS 9 k s0_.pages_.length)] (fun kx : Unit => (tB.is r)) (fun kx : Unit => [(0, (Bx 5 true 56 ((tpagestore_Store_k0 k).is s0_) b)), (1000000, Dec.Own tS 9 k s0_.pages_.length)]) := by
 unfold M.pagestore_Store_Failed at hm
 refine FSpecR.of Tryz.func21 rfl rfl rfl fun g0 => Aw <| Ao rfl (.assign .bool) <| Ar <| Am rfl rfl <| Ao rfl (.nilCheckB (.t rfl)) <| Ao rfl (.fieldAddrB (o := 0) Tryz.underlying56 rfl J4 (.t rfl) rfl) <| Ao rfl (.loadBF 0 rfl ty4 (fpagestore_Store_k0_4 k) rfl (.t rfl)) <| Ag rfl rfl <| WL.ns ?_
 have hr := Si hm
 clear hm
 subst hr
 exact W.ret1 () rfl (.t rfl) ⟨rfl, rfl, ⟨rfl, rfl, trivial⟩⟩
theorem pagestore_Store_Root_spec (s0_ : pagestore_Store) (b : Nat) (k : Tok) (r : Int) (hm : M.pagestore_Store_Root s0_ = some r) : FSpecR Tryz.prog 49 [(Bp b 0)] [(0, (Bx 5 true 56 ((tpagestore_Store_k0 k).is s0_) b)), (1000000, Dec.Own tS 9 k s0_.pages_.length)] (fun kx : Unit => (I6.is r)) (fun kx : Unit => [(0, (Bx 5 true 56 ((tpagestore_Store_k0 k).is s0_) b)), (1000000, Dec.Own tS 9 k s0_.pages_.length)]) := by
 unfold M.pagestore_Store_Root at hm
 refine FSpecR.of Tryz.func49 rfl rfl rfl fun g0 => Aw <| Ao rfl (.assign .i64) <| Ar <| Am rfl rfl <| Ao rfl (.nilCheckB (.t rfl)) <| Ao rfl (.fieldAddrB (o := 0) Tryz.underlying56 rfl J3 (.t rfl) rfl) <| Ao rfl (.loadBF 0 rfl ty3 (fpagestore_Store_k0_2 k) rfl (.t rfl)) <| Ag rfl rfl <| WL.ns ?_
 have hr := Si hm
 clear hm
 subst hr
 exact W.ret1 () rfl (.t rfl) ⟨rfl, rfl, ⟨rfl, rfl, trivial⟩⟩
theorem pagestore_Store_there_spec (s0_ : pagestore_Store) (page : Int) (b : Nat) (k : Tok) (r : Bool) (hm : M.pagestore_Store_there s0_ page = some r) : FSpecR Tryz.prog 40 [(Bp b 0), (I6.is page)] [(0, (Bx 5 true 56 ((tpagestore_Store_k0 k).is s0_) b)), (1000000, Dec.Own tS 9 k s0_.pages_.length)] (fun kx : Unit => (tB.is r)) (fun kx : Unit => [(0, (Bx 5 true 56 ((tpagestore_Store_k0 k).is s0_) b)), (1000000, Dec.Own tS 9 k s0_.pages_.length)]) := by
 unfold M.pagestore_Store_there at hm
 refine FSpecR.of Tryz.func40 rfl rfl rfl fun g0 => Aw <| Ao rfl (.assign .bool) <| Ar <| Am rfl rfl <| Ao rfl (.geI (.t rfl) .i64) <| WL.mv rfl rfl ?_
 rcases iteD hm with ⟨hp2, hb1, hm⟩ | ⟨hp2, hb1, hm⟩
 ·refine Ax rfl hb1 (.move (.t rfl)) <| Ax rfl hb1 (.move (.t rfl)) <| Ax rfl hb1 (.nilCheckB (.t rfl)) <| Ax rfl hb1 (.fieldAddrB (o := 0) Tryz.underlying56 rfl J26 (.t rfl) rfl) <| Ax rfl hb1 (.ofOT (Op1.loadBF (t := (tOT tS k)) (f := fun x : pagestore_Store => x.pages_) (u := s0_) 0 rfl ⟨ty26.agg, ty26.size⟩ (fpagestore_Store_k0_0 k) rfl (.t rfl))) <| Ax rfl hb1 (.lenL U26 (Opd.own (.t rfl))) <| Ax rfl hb1 (.ltI (.t rfl) (.t rfl)) <| Ao rfl (.pickT (.t rfl) hb1 (.t rfl)) <| Ag rfl rfl <| WL.ns ?_
  have hr := Si hm
  clear hm
  subst hr
  exact W.ret1 () rfl (.t rfl) ⟨rfl, rfl, ⟨rfl, rfl, trivial⟩⟩
 ·refine Ap rfl hb1 <| Ap rfl hb1 <| Ap rfl hb1 <| Ap rfl hb1 <| Ap rfl hb1 <| Ap rfl hb1 <| Ap rfl hb1 <| Ao rfl (.pickF (.t rfl) hb1 .bool) <| Ag rfl rfl <| WL.ns ?_
  have hr := Si hm
  clear hm
  subst hr
  exact W.ret1 () rfl (.t rfl) ⟨rfl, rfl, ⟨rfl, rfl, trivial⟩⟩
theorem pagestore_Store_Read_spec (s0_ : pagestore_Store) (page : Int) (b : Nat) (k : Tok) (r : Str × Int) (hm : M.pagestore_Store_Read s0_ page = some r) : FSpecR Tryz.prog 50 [(Bp b 0), (I6.is page)] [(0, (Bx 5 true 56 ((tpagestore_Store_k0 k).is s0_) b)), (1000000, Dec.Own tS 9 k s0_.pages_.length)] (fun kx : Unit => (Asn.tuple2 (tS.is r.1) (I6.is r.2))) (fun kx : Unit => [(0, (Bx 5 true 56 ((tpagestore_Store_k0 k).is s0_) b)), (1000000, Dec.Own tS 9 k s0_.pages_.length)]) := by
 unfold M.pagestore_Store_Read at hm
 refine FSpecR.of Tryz.func50 rfl rfl rfl fun g0 => Aw <| Ao rfl (.assign (.str rfl (by decide))) <| Ao rfl (.assign .i64) <| An <| W.seq <| W.block <| Aw <| Am rfl rfl <| Ao rfl (.nilCheckB (.t rfl)) <| Ao rfl (.fieldAddrB (o := 0) Tryz.underlying56 rfl J4 (.t rfl) rfl) <| Ao rfl (.loadBF 0 rfl ty4 (fpagestore_Store_k0_4 k) rfl (.t rfl)) <| Ag rfl rfl <| An <| W.cB hm (.t rfl) (fun hp2 hm => ?_) (fun hp2 hm => ?_)
 ·refine Aw <| Ao rfl (.assign (.str rfl (by decide))) <| Ao rfl (.assign .i64) <| WL.ns ?_
  have hr := Si hm
  clear hm
  subst hr
  exact W.ret2 () rfl rfl (.t rfl) (.t rfl) ⟨rfl, rfl, ⟨rfl, rfl, trivial⟩⟩
 ·refine Aw <| Am rfl rfl <| WL.mv rfl rfl ?_
  obtain ⟨there, hv3, hm⟩ := Bs hm
  refine WL.weakR (res' := [(0, (Bx 5 true 56 ((tpagestore_Store_k0 k).is s0_) b)), (1000000, Dec.Own tS 9 k s0_.pages_.length)]) ⟨rfl, rfl, ⟨rfl, rfl, trivial⟩⟩ <| WL.opR rfl (OpR.call (us := [0, 1000000]) (A := fun kx : Unit => (tB.is there)) C40 (FSpecR.keys (rin' := [(0, (Bx 5 true 56 ((tpagestore_Store_k0 k).is s0_) b)), (1000000, Dec.Own tS 9 k s0_.pages_.length)]) (out' := fun kx : Unit => [(0, (Bx 5 true 56 ((tpagestore_Store_k0 k).is s0_) b)), (1000000, Dec.Own tS 9 k s0_.pages_.length)]) (pagestore_Store_there_spec _ _ _ _ _ hv3) rfl (fun _ => rfl)) rfl ⟨(.t rfl), (.t rfl), trivial⟩) fun _ => Ao rfl (.notB (.t rfl)) <| Ag rfl rfl <| An <| W.cR hm (.t rfl) (fun hp5 hm => ?_) (fun hp5 hm => ?_)
  ·refine Aw <| Ao rfl (.assign (.str rfl (by decide))) <| Ao rfl (.assign .i64) <| WL.ns ?_
   have hr := Si hm
   clear hm
   subst hr
   exact W.ret2 () rfl rfl (.t rfl) (.t rfl) ⟨rfl, rfl, ⟨rfl, rfl, trivial⟩⟩
  ·refine W.skip <| WN.block <| Aq <| Aw <| Am rfl rfl <| Ao rfl (.nilCheckB (.t rfl)) <| Ao rfl (.fieldAddrB (o := 0) Tryz.underlying56 rfl J26 (.t rfl) rfl) <| Ao rfl (.ofOT (Op1.loadBF (t := (tOT tS k)) (f := fun x : pagestore_Store => x.pages_) (u := s0_) 0 rfl ⟨ty26.agg, ty26.size⟩ (fpagestore_Store_k0_0 k) rfl (.t rfl))) <| WL.mv rfl rfl ?_
   obtain ⟨v, hv6, hm⟩ := Bs hm
   refine Ao rfl (.idx hv6 U26 Z9 (Opd.own (.t rfl)) (.t rfl)) <| Ao rfl (.load ty9 (.t rfl)) <| Ag rfl rfl <| Ao rfl (.assign .i64) <| WL.ns ?_
   have hr := Si hm
   clear hm
   subst hr
   exact W.ret2 () rfl rfl (.t rfl) (.t rfl) ⟨rfl, rfl, ⟨rfl, rfl, trivial⟩⟩
theorem strings_Cut_spec (s sep : Str) (r : Str × Str × Bool) (hm : cutM s sep = some r) : FSpecR Tryz.prog 58 [tS.is s, tS.is sep] [(700000, GlE 0)] (fun _ : Unit => Asn.tuple3 (tS.is r.1) (tS.is r.2.1) (tB.is r.2.2)) (fun _ => []) :=
 cut_spec (fun s sep m w hs hm => Tryz.strings_Cut s sep m w hs hm) _ s sep r hm
theorem strings_Split_spec (s sep : Str) (r : List Str) (hm : splitM s sep = some r) : FSpecR Tryz.prog 59 [tS.is s, tS.is sep] [(700000, GlE 0)] (fun _ : Unit => (tL tS).is r) (fun _ => []) :=
 split_spec (fun s sep m w hs hm h1 => Tryz.strings_Split s sep m w hs hm h1) _ s sep r hm
theorem strconv_Atoi_spec (s : Str) (r : Int × Bool) (hm : atoiB s = some r) : FSpecR Tryz.prog 60 [tS.is s] [(700001, GlI 1), (700002, GlI 2)] (fun _ : Unit => Asn.tuple2 (I6.is r.1) (tEb.is r.2)) (fun _ => []) :=
 atoiB_spec (fun s h v hv w => Tryz.strconv_Atoi_ok s h v hv w) (fun s h hv ev w h1 h2 => Tryz.strconv_Atoi_syntax s h hv ev w h1 h2) (fun s h hv ev w h1 h2 => Tryz.strconv_Atoi_range s h hv ev w h1 h2) _ _ s r hm
theorem strconv_Itoa_spec (n : Int) (r : Str) (hm : itoaM n = some r) : FSpecR Tryz.prog 57 [I6.is n] [(700003, GlT Tryz.prog "internal/strconv.uint64pow10" .u64 Lib.pow10Tab)] (fun _ : Unit => tS.is r) (fun _ => []) :=
 itoa_spec (fun n h0 h1 w ht => Tryz.strconv_Itoa n h0 h1 w ht) _ n r hm
theorem journal_open_spec (at0_ : Int) (whole : Str) (r : journal_read × Bool) (hm : M.journal_open at0_ whole = some r) : FSpecR Tryz.prog 51 [(I6.is at0_), (tS.is whole)] [(700000, GlE 0), (700001, GlI 1), (700002, GlI 2), (700003, GlT Tryz.prog "internal/strconv.uint64pow10" .u64 Lib.pow10Tab)] (fun _ : Unit => (Asn.tuple2 (tjournal_read.is r.1) (tB.is r.2))) (fun _ => []) := by
 unfold M.journal_open at hm
 refine FSpecR.of Tryz.func51 rfl rfl rfl fun g0 => Aw <| WL.opR rfl (OpR.alloc 4 ze81) fun b => Ao rfl (.assign .bool) <| Ar <| WL.mv rfl rfl ?_
 obtain ⟨cut, hv1, hm⟩ := Bs hm
 refine Ao rfl (.callG (rin := [(700000, GlE 0)]) C58 (strings_Cut_spec _ _ _ hv1) ⟨rfl, trivial⟩ ⟨rfl, rfl, trivial⟩ ⟨(.t rfl), (.str rfl (by decide)), trivial⟩) <| Am rfl rfl <| Ao rfl (.extract30 (.t rfl)) <| Ao rfl (.extract31 (.t rfl)) <| Ao rfl (.extract32 (.t rfl)) <| Ag rfl rfl <| Ag rfl rfl <| Ag rfl rfl <| Ar <| WL.mv rfl rfl ?_
 obtain ⟨split, hv2, hm⟩ := Bs hm
 refine Ao rfl (.callG (rin := [(700000, GlE 0)]) C59 (strings_Split_spec _ _ _ hv2) ⟨rfl, trivial⟩ ⟨rfl, rfl, trivial⟩ ⟨(.t rfl), (.str rfl (by decide)), trivial⟩) <| Ag rfl rfl <| An <| W.seq ?_
 obtain ⟨s3, hs4, hk5⟩ := Bs hm
 clear hm
 refine W.join (fun s : Bool => s = s3) (fun s => [(39, (tB.is s)), (0, (I6.is at0_)), (1, (tS.is whole)), (4, (Bp b 0)), (7, (tS.is cut.2.1)), (9, ((tL tS).is split))]) (fun s => [(4, (Bx 5 true 81 (tjournal_read.is zjournal_read) b)), (700000, GlE 0), (700001, GlI 1), (700002, GlI 2), (700003, GlT Tryz.prog "internal/strconv.uint64pow10" .u64 Lib.pow10Tab)]) ?_ ?_
 ·rintro v hj37
  try dsimp only at hj37
  subst hj37
  have hm := hk5
  clear hk5
  try dsimp only at hm
  change W _ _ _ _ _ _ _ [(39, (tB.is v)), (0, (I6.is at0_)), (1, (tS.is whole)), (4, (Bp b 0)), (7, (tS.is cut.2.1)), (9, ((tL tS).is split))] [(4, (Bx 5 true 81 (tjournal_read.is zjournal_read) b)), (700000, GlE 0), (700001, GlI 1), (700002, GlI 2), (700003, GlT Tryz.prog "internal/strconv.uint64pow10" .u64 Lib.pow10Tab)]
  refine W.cB hm (.t rfl) (fun hp15 hm => ?_) (fun hp15 hm => ?_)
  ·refine Aw <| Ao rfl (.build (s := tjournal_read) (x := (⟨(0 : Int), (0 : Int), ([] : Str), ([] : Str), ([] : Str)⟩ : journal_read)) zjournal_read_f rfl Tryz.underlying81 (zjournal_read_sz _ Tryz.underlying81) ze81 rfl) <| WL.opU (OpR.storeB (b := b) 4 Z81 (Cellable.is tjournal_read (⟨(0 : Int), (0 : Int), ([] : Str), ([] : Str), ([] : Str)⟩ : journal_read)) rfl (.t rfl) (.t rfl)) fun _ => Ao rfl (.assign .bool) <| WL.ns ?_
   have hr := Si hm
   clear hm
   subst hr
   exact W.retQ2 () rfl rfl (ResAt.cell 4 Y81 Z81 rfl (.t rfl)) (ResAt.tmp (.t rfl)) trivial
  ·refine W.skip <| Aq <| Aw <| Ao rfl (.assign .i64) <| WL.ns ?_
   obtain ⟨s16, hs17, hk18⟩ := Bs hm
   clear hm
   refine W.join (fun s : Int × journal_read => (Sum.inl s : (Int × journal_read) ⊕ (journal_read × Bool)) = s16) (fun s => [(10, (I6.is s.1)), (0, (I6.is at0_)), (1, (tS.is whole)), (4, (Bp b 0)), (7, (tS.is cut.2.1)), (9, ((tL tS).is split))]) (fun s => [(4, (Bx 5 true 81 (tjournal_read.is s.2) b)), (700000, GlE 0), (700001, GlI 1), (700002, GlI 2), (700003, GlT Tryz.prog "internal/strconv.uint64pow10" .u64 Lib.pow10Tab)]) ?_ ?_
   ·rintro ⟨ahead, v3⟩ hj36
    try dsimp only at hj36
    subst hj36
    have hm := hk18
    clear hk18
    try dsimp only at hm
    change W _ _ _ _ _ _ _ [(10, (I6.is ahead)), (0, (I6.is at0_)), (1, (tS.is whole)), (4, (Bp b 0)), (7, (tS.is cut.2.1)), (9, ((tL tS).is split))] [(4, (Bx 5 true 81 (tjournal_read.is v3) b)), (700000, GlE 0), (700001, GlI 1), (700002, GlI 2), (700003, GlT Tryz.prog "internal/strconv.uint64pow10" .u64 Lib.pow10Tab)]
    refine Aw <| Am rfl rfl <| Am rfl rfl <| WL.mv rfl rfl ?_
    obtain ⟨v7, hv35, hm⟩ := Bs hm
    refine Ao rfl (.idx hv35 U26 Z9 (.t rfl) .i64) <| Ao rfl (.load ty9 (.t rfl)) <| Am rfl rfl <| Am rfl rfl <| Ao rfl (.build (s := tjournal_read) (x := (⟨at0_, ahead, v7, cut.2.1, whole⟩ : journal_read)) zjournal_read_f rfl Tryz.underlying81 (zjournal_read_sz _ Tryz.underlying81) ze81 ⟨_, I6, at0_, _, _, rfl, Z3, (.t rfl), sjournal_read_0, ⟨_, I6, ahead, _, _, rfl, Z3, (.t rfl), sjournal_read_1, ⟨_, tS, v7, _, _, rfl, Z9, (.t rfl), sjournal_read_2, ⟨_, tS, cut.2.1, _, _, rfl, Z9, (.t rfl), sjournal_read_3, ⟨_, tS, whole, _, _, rfl, Z9, (.t rfl), sjournal_read_4, rfl⟩⟩⟩⟩⟩) <| WL.opU (OpR.storeB (b := b) 4 Z81 (Cellable.is tjournal_read (⟨at0_, ahead, v7, cut.2.1, whole⟩ : journal_read)) rfl (.t rfl) (.t rfl)) fun _ => Ao rfl (.assign .bool) <| WL.ns ?_
    have hr := Si hm
    clear hm
    subst hr
    exact W.retQ2 () rfl rfl (ResAt.cell 4 Y81 Z81 rfl (.t rfl)) (ResAt.tmp (.t rfl)) trivial
   ·have hm := hs17
    clear hs17
    refine Aw <| WL.mv rfl rfl ?_
    obtain ⟨v4, hv19, hm⟩ := Bs hm
    refine Ao rfl (.idx hv19 U26 Z9 (.t rfl) .i64) <| Ao rfl (.load ty9 (.t rfl)) <| Ao rfl (.neS (.t rfl) (.str rfl (by decide))) <| An <| W.cB hm (.t rfl) (fun hp21 hm => ?_) (fun hp21 hm => ?_)
    ·refine Aw <| WL.mv rfl rfl ?_
     obtain ⟨v5, hv22, hm⟩ := Bs hm
     refine Ao rfl (.idx hv22 U26 Z9 (.t rfl) .i64) <| Ao rfl (.load ty9 (.t rfl)) ?_
     obtain ⟨atoi, hv23, hm⟩ := Bs hm
     refine Ao rfl (.callG (rin := [(700001, GlI 1), (700002, GlI 2)]) C60 (strconv_Atoi_spec _ _ hv23) ⟨rfl, rfl, trivial⟩ ⟨rfl, rfl, ⟨rfl, rfl, trivial⟩⟩ ⟨(.t rfl), trivial⟩) <| Am rfl rfl <| Ao rfl (.extract0 (.t rfl)) <| Ao rfl (.extract1 (.t rfl)) <| Ag rfl rfl <| Ag rfl rfl <| An <| W.seq <| W.seq ?_
     rcases iteB hm with ⟨hp25, hb24, hm⟩ | ⟨hp25, hb24, hm⟩
     ·refine W.draw [.c _, .c (tB.is atoi.2), .c (tB.is atoi.2), .c _, .c _, .c (tB.is true), .c (tB.is true), .c _, .c _, .c _, .c _, .c _, .c _, .c (tB.is true)] [([], [12]), ([0], []), ([1], []), ([2], [11]), ([2, 3], []), ([2, 4], []), ([5], []), ([6], [11]), ([6, 7], []), ([6], [9]), ([6, 9], []), ([6, 10], []), ([6, 8, 11], []), ([6, 12], [])] Mx rfl rfl rfl rfl ⟨Dn (.move (.t rfl)), Dn (.neNilE Tryz.underlying91 (.t rfl)), Dn (.move (.t rfl)), Dp rfl hb24, Dp rfl hb24, Dn (.pickT (.t rfl) hb24 .bool), Dn (.move (.t rfl)), Dp rfl rfl, Dp rfl rfl, Dp rfl rfl, Dp rfl rfl, Dp rfl rfl, Dp rfl rfl, Dn (.pickT (.t rfl) rfl .bool), trivial⟩ <| Aq <| W.condT (.t rfl) <| Aw <| Ao rfl (.build (s := tjournal_read) (x := (⟨(0 : Int), (0 : Int), ([] : Str), ([] : Str), ([] : Str)⟩ : journal_read)) zjournal_read_f rfl Tryz.underlying81 (zjournal_read_sz _ Tryz.underlying81) ze81 rfl) <| WL.opU (OpR.storeB (b := b) 4 Z81 (Cellable.is tjournal_read (⟨(0 : Int), (0 : Int), ([] : Str), ([] : Str), ([] : Str)⟩ : journal_read)) rfl (.t rfl) (.t rfl)) fun _ => Ao rfl (.assign .bool) <| WL.ns ?_
      have hr26 := Si hm
      clear hm
      subst hr26
      have hm := hk18
      try dsimp only at hm
      have hr := Si hm
      clear hm
      subst hr
      exact W.retQ2 () rfl rfl (ResAt.cell 4 Y81 Z81 rfl (.t rfl)) (ResAt.tmp (.t rfl)) trivial
     ·rcases iteD hm with ⟨hp28, hb27, hm⟩ | ⟨hp28, hb27, hm⟩
      ·refine W.draw [.c _, .c _, .c _, .c _, .c _, .c _, .c _, .c _, .c _, .c _, .c _, .c _, .c _, .c _] [([], [12]), ([0], []), ([1], []), ([2], [11]), ([2, 3], []), ([2, 4], []), ([5], []), ([6], [11]), ([6, 7], []), ([6], [9]), ([6, 9], []), ([6, 10], []), ([6, 8, 11], []), ([6, 12], [])] Mx rfl rfl rfl rfl ⟨Dn (.move (.t rfl)), Dn (.neNilE Tryz.underlying91 (.t rfl)), Dn (.move (.t rfl)), Dr rfl hb24 (.move (.t rfl)), Dr rfl hb24 (.ltI (.t rfl) .i64), Dn (.pickF (.t rfl) hb24 (.t rfl)), Dn (.move (.t rfl)), Dp rfl hb27, Dp rfl hb27, Dp rfl hb27, Dp rfl hb27, Dp rfl hb27, Dp rfl hb27, Dn (.pickT (.t rfl) hb27 .bool), trivial⟩ <| Aq <| W.condT (.t rfl) <| Aw <| Ao rfl (.build (s := tjournal_read) (x := (⟨(0 : Int), (0 : Int), ([] : Str), ([] : Str), ([] : Str)⟩ : journal_read)) zjournal_read_f rfl Tryz.underlying81 (zjournal_read_sz _ Tryz.underlying81) ze81 rfl) <| WL.opU (OpR.storeB (b := b) 4 Z81 (Cellable.is tjournal_read (⟨(0 : Int), (0 : Int), ([] : Str), ([] : Str), ([] : Str)⟩ : journal_read)) rfl (.t rfl) (.t rfl)) fun _ => Ao rfl (.assign .bool) <| WL.ns ?_
       have hr29 := Si hm
       clear hm
       subst hr29
       have hm := hk18
       try dsimp only at hm
       have hr := Si hm
       clear hm
       subst hr
       exact W.retQ2 () rfl rfl (ResAt.cell 4 Y81 Z81 rfl (.t rfl)) (ResAt.tmp (.t rfl)) trivial
      ·obtain ⟨itoa, hv30, hm⟩ := Bs hm
       obtain ⟨v6, hv31, hm⟩ := Bs hm
       refine W.draw [.c _, .c _, .c _, .c _, .c _, .c _, .c _, .c _, .c _, .c _, .c _, .c _, .c _, .c _] [([], [12]), ([0], []), ([1], []), ([2], [11]), ([2, 3], []), ([2, 4], []), ([5], []), ([6], [11]), ([6, 7], []), ([6], [9]), ([6, 9], []), ([6, 10], []), ([6, 8, 11], []), ([6, 12], [])] Mx rfl rfl rfl rfl ⟨Dn (.move (.t rfl)), Dn (.neNilE Tryz.underlying91 (.t rfl)), Dn (.move (.t rfl)), Dr rfl hb24 (.move (.t rfl)), Dr rfl hb24 (.ltI (.t rfl) .i64), Dn (.pickF (.t rfl) hb24 (.t rfl)), Dn (.move (.t rfl)), Dr rfl hb27 (.move (.t rfl)), Dr rfl hb27 (.callG (rin := [(700003, GlT Tryz.prog "internal/strconv.uint64pow10" .u64 Lib.pow10Tab)]) C57 (strconv_Itoa_spec _ _ hv30) ⟨rfl, trivial⟩ ⟨rfl, rfl, trivial⟩ ⟨(.t rfl), trivial⟩), Dr rfl hb27 (.move (.t rfl)), Dr rfl hb27 (.idx hv31 U26 Z9 (.t rfl) .i64), Dr rfl hb27 (.load ty9 (.t rfl)), Dr rfl hb27 (.neS (.t rfl) (.t rfl)), Dn (.pickF (.t rfl) hb27 (.t rfl)), trivial⟩ <| Aq <| W.cB hm (.t rfl) (fun hp33 hm => ?_) (fun hp33 hm => ?_)
       ·refine Aw <| Ao rfl (.build (s := tjournal_read) (x := (⟨(0 : Int), (0 : Int), ([] : Str), ([] : Str), ([] : Str)⟩ : journal_read)) zjournal_read_f rfl Tryz.underlying81 (zjournal_read_sz _ Tryz.underlying81) ze81 rfl) <| WL.opU (OpR.storeB (b := b) 4 Z81 (Cellable.is tjournal_read (⟨(0 : Int), (0 : Int), ([] : Str), ([] : Str), ([] : Str)⟩ : journal_read)) rfl (.t rfl) (.t rfl)) fun _ => Ao rfl (.assign .bool) <| WL.ns ?_
        have hr34 := Si hm
        clear hm
        subst hr34
        have hm := hk18
        try dsimp only at hm
        have hr := Si hm
        clear hm
        subst hr
        exact W.retQ2 () rfl rfl (ResAt.cell 4 Y81 Z81 rfl (.t rfl)) (ResAt.tmp (.t rfl)) trivial
       ·exact W.skip <| Aq <| W.region <| Am rfl rfl <| Ag rfl rfl <| WL.nil <| WN.meet (atoi.1, zjournal_read) (Si hm) ⟨.q rfl, .q rfl, .q rfl, .q rfl, .q rfl, .q rfl, trivial⟩ ⟨rfl, rfl, ⟨rfl, rfl, ⟨rfl, rfl, ⟨rfl, rfl, ⟨rfl, rfl, trivial⟩⟩⟩⟩⟩
    ·exact W.skip <| WN.meet ((-1 : Int), zjournal_read) (Si hm) ⟨.q rfl, .q rfl, .q rfl, .q rfl, .q rfl, .q rfl, trivial⟩ ⟨rfl, rfl, ⟨rfl, rfl, ⟨rfl, rfl, ⟨rfl, rfl, ⟨rfl, rfl, trivial⟩⟩⟩⟩⟩
 ·have hm := hs4
  clear hs4
  refine W.region <| Am rfl rfl <| Ao rfl (.notB (.t rfl)) <| WL.mv rfl rfl ?_
  rcases iteR hm with ⟨hp7, hb6, hm⟩ | ⟨hp7, hb6, hm⟩
  ·refine Ap rfl hb6 <| Ap rfl hb6 <| Ap rfl hb6 <| Ao rfl (.pickT (.t rfl) hb6 .bool) <| Am rfl rfl <| Ap rfl rfl <| Ap rfl rfl <| Ap rfl rfl <| Ap rfl rfl <| Ap rfl rfl <| WL.pass2 rfl rfl rfl rfl rfl rfl <| WL.pass2 rfl rfl rfl rfl rfl rfl <| WL.pass2 rfl rfl rfl rfl rfl rfl <| WL.pass2 rfl rfl rfl rfl rfl rfl <| Ap rfl rfl <| Ao rfl (.pickT (.t rfl) rfl .bool) ?_
   exact WL.nil <| WN.meet true (Si hm) ⟨.q rfl, .q rfl, .q rfl, .q rfl, .q rfl, .q rfl, trivial⟩ ⟨rfl, rfl, ⟨rfl, rfl, ⟨rfl, rfl, ⟨rfl, rfl, ⟨rfl, rfl, trivial⟩⟩⟩⟩⟩
  ·refine Ax rfl hb6 (.move (.t rfl)) <| Ax rfl hb6 (.lenL U26 (.t rfl)) <| Ax rfl hb6 (.neI (.t rfl) .i64) <| Ao rfl (.pickF (.t rfl) hb6 (.t rfl)) <| WL.mv rfl rfl ?_
   rcases iteD hm with ⟨hp9, hb8, hm⟩ | ⟨hp9, hb8, hm⟩
   ·exact Ap rfl hb8 <| Ap rfl hb8 <| Ap rfl hb8 <| Ap rfl hb8 <| Ap rfl hb8 <| WL.pass2 rfl rfl rfl rfl rfl rfl <| WL.pass2 rfl rfl rfl rfl rfl rfl <| WL.pass2 rfl rfl rfl rfl rfl rfl <| WL.pass2 rfl rfl rfl rfl rfl rfl <| Ap rfl hb8 <| Ao rfl (.pickT (.t rfl) hb8 .bool) <| WL.nil <| WN.meet true (Si hm) ⟨.q rfl, .q rfl, .q rfl, .q rfl, .q rfl, .q rfl, trivial⟩ ⟨rfl, rfl, ⟨rfl, rfl, ⟨rfl, rfl, ⟨rfl, rfl, ⟨rfl, rfl, trivial⟩⟩⟩⟩⟩
   ·refine Ax rfl hb8 (.move (.t rfl)) ?_
    obtain ⟨v1, hv10, hm⟩ := Bs hm
    refine Ax rfl hb8 (.idx hv10 U26 Z9 (.t rfl) .i64) <| Ax rfl hb8 (.load ty9 (.t rfl)) <| Ax rfl hb8 (.neS (.t rfl) (.str rfl (by decide))) <| Ax rfl hb8 (.move (.t rfl)) ?_
    rcases iteB hm with ⟨hp12, hb11, hm⟩ | ⟨hp12, hb11, hm⟩
    ·refine Ax rfl hb11 (.move (.t rfl)) ?_
     obtain ⟨v2, hv13, hm⟩ := Bs hm
     exact Ax rfl hb11 (.idx hv13 U26 Z9 (.t rfl) .i64) <| Ax rfl hb11 (.load ty9 (.t rfl)) <| Ax rfl hb11 (.neS (.t rfl) (.str rfl (by decide))) <| Ax rfl hb8 (.pickT (.t rfl) hb11 (.t rfl)) <| Ao rfl (.pickF (.t rfl) hb8 (.t rfl)) <| WL.nil <| WN.meet (v2 != ([46] : Str)) (Si hm) ⟨.q rfl, .q rfl, .q rfl, .q rfl, .q rfl, .q rfl, trivial⟩ ⟨rfl, rfl, ⟨rfl, rfl, ⟨rfl, rfl, ⟨rfl, rfl, ⟨rfl, rfl, trivial⟩⟩⟩⟩⟩
    ·exact Ap rfl hb11 <| Ap rfl hb11 <| Ap rfl hb11 <| Ap rfl hb11 <| Ax rfl hb8 (.pickF (.t rfl) hb11 .bool) <| Ao rfl (.pickF (.t rfl) hb8 (.t rfl)) <| WL.nil <| WN.meet false (Si hm) ⟨.q rfl, .q rfl, .q rfl, .q rfl, .q rfl, .q rfl, trivial⟩ ⟨rfl, rfl, ⟨rfl, rfl, ⟨rfl, rfl, ⟨rfl, rfl, ⟨rfl, rfl, trivial⟩⟩⟩⟩⟩
theorem slices_Reverse_journal_read_journal_read_lays : Go.Proofs.SlLaysE0.n35 Tryz.prog ⟨fun | 35 => 52 | n => n, fun | 0 => 0 | 3 => 3 | 4 => 4 | 22 => 77 | 23 => 81 | n => n, fun n => n⟩ := {
  mixed := Tryz.mixed
  f35 := ⟨ "slices.Reverse[[]pandect/journal.read,pandect/journal.read]", by kernel_rfl, Tryz.func52.trans (congrArg some (by kernel_rfl))⟩
  t0 := Tryz.underlying0
  a0 := Tryz.isAgg0
  z0 := Tryz.sizeOf0
  v0 := Tryz.zeroValue0
  t3 := Tryz.underlying3
  a3 := Tryz.isAgg3
  z3 := Tryz.sizeOf3
  v3 := Tryz.zeroValue3
  t4 := Tryz.underlying4
  a4 := Tryz.isAgg4
  z4 := Tryz.sizeOf4
  v4 := Tryz.zeroValue4
  t22 := Tryz.underlying77
  a22 := Tryz.isAgg77
  z22 := Tryz.sizeOf77
  v22 := Tryz.zeroValue77
}
theorem slices_Reverse_journal_read_journal_read_ne (blk off cap : Nat) (d : Array (Cl 5)) (w : World) (hH : Go.Sort.HoldsK (fun c : Cl 5 => c.1) 5 w blk off d) (hs : d.size ≤ 9223372036854775807) :
    Calls Tryz.prog 52 #[.slice (some ⟨blk, off, none⟩) d.size cap] w fun e w' => e = .returned (.tuple #[]) ∧ ∃ n, w' = Go.Sort.putRowK (fun c : Cl 5 => c.1) 5 (Sort.ahead w n) blk off d.reverse :=
  Go.Proofs.AnyQ.slices_Reverse (α := Cl 5) slices_Reverse_journal_read_journal_read_lays 5 Tryz.isAgg81 Tryz.sizeOf81 (fun c : Cl 5 => c.1) (fun x => x.2.1) (fun x => x.2.2) blk off cap d w hH hs
theorem slices_Reverse_journal_read_journal_read_spec (key : Nat) (k : Tok) (xs : List journal_read) : FSpecR Tryz.prog 52 [tU k xs.length] [(key, OwnU tjournal_read 81 k xs)] (fun _ : Unit => Asn.any) (fun _ => [(key, OwnU tjournal_read 81 k xs.reverse)]) :=
  reverse_spec (t := tjournal_read) (E := 81) slices_Reverse_journal_read_journal_read_ne (fun a cap w => Go.Proofs.AnyQ.slices_Reverse_empty slices_Reverse_journal_read_journal_read_lays a cap w) key k xs
theorem journal_way_spec (n : Nat) (s0_ : pagestore_Store) (b : Nat) (k : Tok) (r : (List journal_read) × Bool) (hm : M.journal_way n s0_ = some r) : FSpecR Tryz.prog 42 [(Bp b 0)] [(0, (Bx 5 true 56 ((tpagestore_Store_k0 k).is s0_) b)), (1000000, Dec.Own tS 9 k s0_.pages_.length), (700000, GlE 0), (700001, GlI 1), (700002, GlI 2), (700003, GlT Tryz.prog "internal/strconv.uint64pow10" .u64 Lib.pow10Tab)] (fun kx : Unit => (Asn.tuple2 ((tL tjournal_read).is r.1) (tB.is r.2))) (fun kx : Unit => [(0, (Bx 5 true 56 ((tpagestore_Store_k0 k).is s0_) b)), (1000000, Dec.Own tS 9 k s0_.pages_.length), (700000, GlE 0), (700001, GlI 1), (700002, GlI 2), (700003, GlT Tryz.prog "internal/strconv.uint64pow10" .u64 Lib.pow10Tab)]) := by
 unfold M.journal_way at hm
 refine FSpecR.of Tryz.func42 rfl rfl rfl fun g0 => Aw <| Ao rfl (.assign (.nil (t := tjournal_read))) <| Ao rfl (.assign .bool) <| Ar <| WL.addNil (t := tjournal_read) (E := 81) 4 <| Ao rfl (.assign (Opd.nilO (t := tjournal_read))) <| WL.freeU (t := tjournal_read) (E := 81) 4 4 rfl rfl <| An <| W.seq <| Aw <| WL.mv rfl rfl ?_
 obtain ⟨root, hv1, hm⟩ := Bs hm
 refine WL.weakR (res' := [(0, (Bx 5 true 56 ((tpagestore_Store_k0 k).is s0_) b)), (1000000, Dec.Own tS 9 k s0_.pages_.length), (4, OwnU tjournal_read 81 (none : Tok) ([] : List journal_read)), (700000, GlE 0), (700001, GlI 1), (700002, GlI 2), (700003, GlT Tryz.prog "internal/strconv.uint64pow10" .u64 Lib.pow10Tab)]) ⟨rfl, rfl, ⟨rfl, rfl, ⟨rfl, rfl, ⟨rfl, rfl, ⟨rfl, rfl, ⟨rfl, rfl, ⟨rfl, rfl, trivial⟩⟩⟩⟩⟩⟩⟩ <| WL.opR rfl (OpR.call (us := [0, 1000000]) (A := fun kx : Unit => (I6.is root)) C49 (FSpecR.keys (rin' := [(0, (Bx 5 true 56 ((tpagestore_Store_k0 k).is s0_) b)), (1000000, Dec.Own tS 9 k s0_.pages_.length)]) (out' := fun kx : Unit => [(0, (Bx 5 true 56 ((tpagestore_Store_k0 k).is s0_) b)), (1000000, Dec.Own tS 9 k s0_.pages_.length)]) (pagestore_Store_Root_spec _ _ _ _ hv1) rfl (fun _ => rfl)) rfl ⟨(.t rfl), trivial⟩) fun _ => Ag rfl rfl <| An <| W.block ?_
 obtain ⟨s2, hs3, hk4⟩ := Bs hm
 clear hm
 refine W.loop (fun m (s : ((List journal_read) × Int) × Tok) => M.journal_way_loop1 s0_ m s.1.1 s.1.2 = some s2) (fun s => [(4, (tU s.2 s.1.1.length)), (5, (I6.is s.1.2)), (0, (Bp b 0))]) (fun s => [(4, OwnU tjournal_read 81 s.2 s.1.1), (1000000, Dec.Own tS 9 k s0_.pages_.length), (0, (Bx 5 true 56 ((tpagestore_Store_k0 k).is s0_) b)), (700000, GlE 0), (700001, GlI 1), (700002, GlI 2), (700003, GlT Tryz.prog "internal/strconv.uint64pow10" .u64 Lib.pow10Tab)]) _ ((([] : List journal_read), root), (none : Tok)) hs3 ⟨.q rfl, .q rfl, .q rfl, trivial⟩ ⟨rfl, rfl, ⟨rfl, rfl, ⟨rfl, rfl, ⟨rfl, rfl, ⟨rfl, rfl, ⟨rfl, rfl, ⟨rfl, rfl, trivial⟩⟩⟩⟩⟩⟩⟩ ?_
 rintro n5 ⟨⟨out, at0_⟩, k1⟩ hm
 try dsimp only at hm
 change W _ _ _ _ _ _ _ [(4, (tU k1 out.length)), (5, (I6.is at0_)), (0, (Bp b 0))] [(4, OwnU tjournal_read 81 k1 out), (1000000, Dec.Own tS 9 k s0_.pages_.length), (0, (Bx 5 true 56 ((tpagestore_Store_k0 k).is s0_) b)), (700000, GlE 0), (700001, GlI 1), (700002, GlI 2), (700003, GlT Tryz.prog "internal/strconv.uint64pow10" .u64 Lib.pow10Tab)]
 cases n5 with
 | zero => rw [M.journal_way_loop1.eq_1] at hm; cases hm
 | succ n5 =>
  rw [M.journal_way_loop1.eq_2] at hm
  refine W.seq <| Aw <| Am rfl rfl <| Ao rfl (.neI (.t rfl) .i64) <| An <| W.cD hm (.t rfl) (fun hp7 hm => ?_) (fun hp7 hm => ?_)
  ·refine W.skip <| Aq <| W.block <| Aw <| Am rfl rfl <| WL.mv rfl rfl ?_
   obtain ⟨read, hv8, hm⟩ := Bs hm
   refine WL.weakR (res' := [(0, (Bx 5 true 56 ((tpagestore_Store_k0 k).is s0_) b)), (1000000, Dec.Own tS 9 k s0_.pages_.length), (4, OwnU tjournal_read 81 k1 out), (700000, GlE 0), (700001, GlI 1), (700002, GlI 2), (700003, GlT Tryz.prog "internal/strconv.uint64pow10" .u64 Lib.pow10Tab)]) ⟨rfl, rfl, ⟨rfl, rfl, ⟨rfl, rfl, ⟨rfl, rfl, ⟨rfl, rfl, ⟨rfl, rfl, ⟨rfl, rfl, trivial⟩⟩⟩⟩⟩⟩⟩ <| WL.opR rfl (OpR.call (us := [0, 1000000]) (A := fun kx : Unit => (Asn.tuple2 (tS.is read.1) (I6.is read.2))) C50 (FSpecR.keys (rin' := [(0, (Bx 5 true 56 ((tpagestore_Store_k0 k).is s0_) b)), (1000000, Dec.Own tS 9 k s0_.pages_.length)]) (out' := fun kx : Unit => [(0, (Bx 5 true 56 ((tpagestore_Store_k0 k).is s0_) b)), (1000000, Dec.Own tS 9 k s0_.pages_.length)]) (pagestore_Store_Read_spec _ _ _ _ _ hv8) rfl (fun _ => rfl)) rfl ⟨(.t rfl), (.t rfl), trivial⟩) fun _ => Am rfl rfl <| Ao rfl (.extract0 (.t rfl)) <| Ao rfl (.extract1 (.t rfl)) <| Ag rfl rfl <| Ag rfl rfl <| An <| W.seq <| Aw <| Am rfl rfl <| Ao rfl (.neI (.t rfl) .i64) <| An <| W.cD hm (.t rfl) (fun hp10 hm => ?_) (fun hp10 hm => ?_)
   ·refine Aw <| Ao rfl (.assign (.nil (t := tjournal_read))) <| Ao rfl (.assign .bool) <| WL.ns ?_
    have hr11 := Si hm
    clear hm
    subst hr11
    have hm := hk4
    try dsimp only at hm
    have hr := Si hm
    clear hm
    subst hr
    exact W.ret2 () rfl rfl (.t rfl) (.t rfl) ⟨rfl, rfl, ⟨rfl, rfl, ⟨rfl, rfl, ⟨rfl, rfl, ⟨rfl, rfl, ⟨rfl, rfl, trivial⟩⟩⟩⟩⟩⟩
   ·refine W.skip <| Aq <| Aw <| Am rfl rfl <| WL.mv rfl rfl ?_
    obtain ⟨open0_, hv12, hm⟩ := Bs hm
    refine Ao rfl (.callG (rin := [(700000, GlE 0), (700001, GlI 1), (700002, GlI 2), (700003, GlT Tryz.prog "internal/strconv.uint64pow10" .u64 Lib.pow10Tab)]) C51 (journal_open_spec _ _ _ hv12) ⟨rfl, rfl, rfl, rfl, trivial⟩ ⟨rfl, rfl, ⟨rfl, rfl, ⟨rfl, rfl, ⟨rfl, rfl, trivial⟩⟩⟩⟩ ⟨(.t rfl), (.t rfl), trivial⟩) <| Am rfl rfl <| Ao rfl (.extract0 (.t rfl)) <| Ao rfl (.extract1 (.t rfl)) <| WL.opR rfl (OpR.alloc 8 ze81) fun b1 => WL.opU (OpR.storeB (b := b1) 8 Z81 (Cellable.is tjournal_read open0_.1) rfl (.t rfl) (.t rfl)) fun _ => WL.sealed (t := tjournal_read) (u := open0_.1) 8 8 rfl rfl <| Ag rfl rfl <| An <| W.seq ?_
    obtain ⟨s13, hs14, hk15⟩ := Bs hm
    clear hm
    refine W.join (fun s : Bool => s = s13) (fun s => [(35, (tB.is s)), (0, (Bp b 0)), (4, (tU k1 out.length)), (8, (tjournal_read.ptr open0_.1))]) (fun s => [(4, OwnU tjournal_read 81 k1 out), (1000000, Dec.Own tS 9 k s0_.pages_.length), (0, (Bx 5 true 56 ((tpagestore_Store_k0 k).is s0_) b)), (700000, GlE 0), (700001, GlI 1), (700002, GlI 2), (700003, GlT Tryz.prog "internal/strconv.uint64pow10" .u64 Lib.pow10Tab)]) ?_ ?_
    ·rintro v hj22
     try dsimp only at hj22
     subst hj22
     have hm := hk15
     clear hk15
     try dsimp only at hm
     change W _ _ _ _ _ _ _ [(35, (tB.is v)), (0, (Bp b 0)), (4, (tU k1 out.length)), (8, (tjournal_read.ptr open0_.1))] [(4, OwnU tjournal_read 81 k1 out), (1000000, Dec.Own tS 9 k s0_.pages_.length), (0, (Bx 5 true 56 ((tpagestore_Store_k0 k).is s0_) b)), (700000, GlE 0), (700001, GlI 1), (700002, GlI 2), (700003, GlT Tryz.prog "internal/strconv.uint64pow10" .u64 Lib.pow10Tab)]
     refine W.cB hm (.t rfl) (fun hp19 hm => ?_) (fun hp19 hm => ?_)
     ·refine Aw <| Ao rfl (.assign (.nil (t := tjournal_read))) <| Ao rfl (.assign .bool) <| WL.ns ?_
      have hr20 := Si hm
      clear hm
      subst hr20
      have hm := hk4
      try dsimp only at hm
      have hr := Si hm
      clear hm
      subst hr
      exact W.ret2 () rfl rfl (.t rfl) (.t rfl) ⟨rfl, rfl, ⟨rfl, rfl, ⟨rfl, rfl, ⟨rfl, rfl, ⟨rfl, rfl, ⟨rfl, rfl, trivial⟩⟩⟩⟩⟩⟩
     ·refine W.skip <| WN.seq ?_
      obtain ⟨out1, hv21, hm⟩ := Bs hm
      exact W.weakR (res' := [(4, OwnU tjournal_read 81 k1 out), (1000000, Dec.Own tS 9 k s0_.pages_.length), (0, (Bx 5 true 56 ((tpagestore_Store_k0 k).is s0_) b)), (700000, GlE 0), (700001, GlI 1), (700002, GlI 2), (700003, GlT Tryz.prog "internal/strconv.uint64pow10" .u64 Lib.pow10Tab)]) ⟨rfl, rfl, ⟨rfl, rfl, ⟨rfl, rfl, ⟨rfl, rfl, ⟨rfl, rfl, ⟨rfl, rfl, ⟨rfl, rfl, trivial⟩⟩⟩⟩⟩⟩⟩ <| W.drawM [.c (tU k1 out.length), .c (tjournal_read.is open0_.1), .c ((tL tjournal_read).is [open0_.1]), .f (fun cv => (tU (cv 0) out1.length)), .c (I6.ptr open0_.1.ahead_), .c (I6.is open0_.1.ahead_), .f (fun cv => (tU (cv 0) out1.length)), .c (I6.is open0_.1.ahead_)] [([], [4]), ([], [8]), ([1], []), ([0, 2], []), ([], [8]), ([4], []), ([3], []), ([5], [])] [3] [[], [], [], [true], [], [], [true], []] (fun m cv => match m with | 0 => [(4, OwnU tjournal_read 81 k1 out), (1000000, Dec.Own tS 9 k s0_.pages_.length), (0, (Bx 5 true 56 ((tpagestore_Store_k0 k).is s0_) b)), (700000, GlE 0), (700001, GlI 1), (700002, GlI 2), (700003, GlT Tryz.prog "internal/strconv.uint64pow10" .u64 Lib.pow10Tab)] | _ => [(4, OwnU tjournal_read 81 (cv 0) out1), (1000000, Dec.Own tS 9 k s0_.pages_.length), (0, (Bx 5 true 56 ((tpagestore_Store_k0 k).is s0_) b)), (700000, GlE 0), (700001, GlI 1), (700002, GlI 2), (700003, GlT Tryz.prog "internal/strconv.uint64pow10" .u64 Lib.pow10Tab)]) (fun _ => none) Mx rfl rfl rfl rfl rfl ⟨fun _ _ _ _ => rfl, ⟨fun _ _ _ _ => rfl, ⟨fun _ _ _ _ => rfl, ⟨fun m hm c t => by simp only [DA.at, upd_dep (r := [true]) (j := 0) rfl hm], ⟨fun _ _ _ _ => rfl, ⟨fun _ _ _ _ => rfl, ⟨fun m hm c t => by simp only [DA.at, upd_dep (r := [true]) (j := 0) rfl hm], ⟨fun _ _ _ _ => rfl, trivial⟩⟩⟩⟩⟩⟩⟩⟩ rfl ⟨mo fun cv => Op1.move (.t rfl), ⟨mo fun cv => Op1.load ty81 (.t rfl), ⟨mo fun cv => Op1.buildSlice (n := 1) (ys := [(0, open0_.1)]) (z := zjournal_read) (xs := [open0_.1]) U77 el81 ze81 ⟨rfl, (.t rfl), trivial⟩ (by simp) (by decide) rfl, ⟨.inl rfl, ⟨mo fun cv => Op1.fieldAddr Tryz.underlying81 rfl J3 fjournal_read_1 (.t rfl), ⟨mo fun cv => Op1.load ty3 (.t rfl), ⟨mo fun cv => Op1.assign (.t rfl), ⟨mo fun cv => Op1.assign (.t rfl), trivial⟩⟩⟩⟩⟩⟩⟩⟩ ⟨⟨_, _, _, [4], (fun cv => [(4, OwnU tjournal_read 81 (cv 0) out1)]), rfl, rfl, rfl, rfl, fun _ => rfl, fun _ _ => rfl, fun cv => OpR.appendU (key := 4) fl81 hv21 U77 el81 rfl (.t rfl) rfl⟩, trivial⟩ fun cv => WN.block <| WN.again n5 ((out1, open0_.1.ahead_), (cv 0)) (Nat.lt_succ_self n5) hm ⟨.q rfl, .q rfl, .q rfl, trivial⟩ ⟨rfl, rfl, ⟨rfl, rfl, ⟨rfl, rfl, ⟨rfl, rfl, ⟨rfl, rfl, ⟨rfl, rfl, ⟨rfl, rfl, trivial⟩⟩⟩⟩⟩⟩⟩
    ·have hm := hs14
     clear hs14
     refine W.region <| Am rfl rfl <| Ao rfl (.notB (.t rfl)) <| WL.mv rfl rfl ?_
     rcases iteR hm with ⟨hp17, hb16, hm⟩ | ⟨hp17, hb16, hm⟩
     ·exact Ap rfl hb16 <| Ap rfl hb16 <| Ap rfl hb16 <| Ap rfl hb16 <| Ao rfl (.pickT (.t rfl) hb16 .bool) <| WL.nil <| WN.meet true (Si hm) ⟨.q rfl, .q rfl, .q rfl, .q rfl, trivial⟩ ⟨rfl, rfl, ⟨rfl, rfl, ⟨rfl, rfl, ⟨rfl, rfl, ⟨rfl, rfl, ⟨rfl, rfl, ⟨rfl, rfl, trivial⟩⟩⟩⟩⟩⟩⟩
     ·exact Ax rfl hb16 (.fieldAddr Tryz.underlying81 rfl J3 fjournal_read_1 (.t rfl)) <| Ax rfl hb16 (.load ty3 (.t rfl)) <| Ax rfl hb16 (.move (.t rfl)) <| Ax rfl hb16 (.geI (.t rfl) (.t rfl)) <| Ao rfl (.pickF (.t rfl) hb16 (.t rfl)) <| WL.nil <| WN.meet (decide (at0_ ≤ open0_.1.ahead_)) (Si hm) ⟨.q rfl, .q rfl, .q rfl, .q rfl, trivial⟩ ⟨rfl, rfl, ⟨rfl, rfl, ⟨rfl, rfl, ⟨rfl, rfl, ⟨rfl, rfl, ⟨rfl, rfl, ⟨rfl, rfl, trivial⟩⟩⟩⟩⟩⟩⟩
  ·refine W.exit rfl ?_
   have hr23 := Si hm
   clear hm
   subst hr23
   have hm := hk4
   try dsimp only at hm
   refine Aq <| Aw <| Am rfl rfl <| WL.opR rfl (OpR.call (us := [4]) C52 (slices_Reverse_journal_read_journal_read_spec 4 k1 out) rfl ⟨(.t rfl), trivial⟩) fun _ => WL.nil <| WN.lenU 4 (List.length_reverse.symm) rfl <| WN.lenU 42 (List.length_reverse.symm) rfl <| Aq <| Aw <| Am rfl rfl <| WL.fixU 44 4 rfl rfl <| WL.sameU 44 4 rfl rfl <| WL.sameU 44 42 rfl rfl <| Ag rfl rfl <| Ao rfl (.assign .bool) <| WL.ns ?_
   have hr := Si hm
   clear hm
   subst hr
   exact W.ret2 () rfl rfl (Opd.own (.t rfl)) (.t rfl) ⟨rfl, rfl, ⟨rfl, rfl, ⟨rfl, rfl, ⟨rfl, rfl, ⟨rfl, rfl, ⟨rfl, rfl, trivial⟩⟩⟩⟩⟩⟩
theorem internal_strconv_small_spec (i : Int) (r : Str) (hm : M.internal_strconv_small i = some r) : FSpec Tryz.prog 86 [(I6.is i)] (tS.is r) := by
 unfold M.internal_strconv_small at hm
 refine FSpec.of Tryz.func86 rfl rfl rfl fun g0 => Aw <| Ao rfl (.assign (.str rfl (by decide))) <| An <| W.seq <| Aw <| Am rfl rfl <| Ao rfl (.ltI (.t rfl) .i64) <| An <| W.cD hm (.t rfl) (fun hp2 hm => ?_) (fun hp2 hm => ?_)
 ·refine Aw <| Am rfl rfl <| WL.mv rfl rfl ?_
  obtain ⟨v, hv3, hm⟩ := Bs hm
  refine Ao rfl (.addC hv3 (.t rfl) .i64) ?_
  obtain ⟨v1, hv4, hm⟩ := Bs hm
  refine Ao rfl (.sslc hv4 U9 (.str rfl (by decide)) (.t rfl) (.t rfl)) <| Ag rfl rfl <| WL.ns ?_
  have hr := Si hm
  clear hm
  subst hr
  exact W.ret1 () rfl (.t rfl) trivial
 ·refine W.skip <| Aq <| Aw <| WL.mv rfl rfl ?_
  obtain ⟨v2, hv5, hm⟩ := Bs hm
  refine Ao rfl (.mulC hv5 (.t rfl) .i64) <| WL.mv rfl rfl ?_
  obtain ⟨v3, hv6, hm⟩ := Bs hm
  refine Ao rfl (.mulC hv6 (.t rfl) .i64) ?_
  obtain ⟨v4, hv7, hm⟩ := Bs hm
  refine Ao rfl (.addC hv7 (.t rfl) .i64) ?_
  obtain ⟨v5, hv8, hm⟩ := Bs hm
  refine Ao rfl (.sslc hv8 U9 (.str rfl (by decide)) (.t rfl) (.t rfl)) <| Ag rfl rfl <| WL.ns ?_
  have hr := Si hm
  clear hm
  subst hr
  exact W.ret1 () rfl (.t rfl) trivial
theorem internal_strconv_isPowerOfTwo_spec (x : Int) (r : Bool) (hm : M.internal_strconv_isPowerOfTwo x = some r) : FSpec Tryz.prog 106 [(I6.is x)] (tB.is r) := by
 unfold M.internal_strconv_isPowerOfTwo at hm
 refine FSpec.of Tryz.func106 rfl rfl rfl fun g0 => Aw <| Ao rfl (.assign .bool) <| Ar <| Am rfl rfl <| WL.mv rfl rfl ?_
 obtain ⟨v, hv1, hm⟩ := Bs hm
 refine Ao rfl (.subC hv1 (.t rfl) .i64) <| Ao rfl (.andI (.t rfl) (.t rfl)) <| Ao rfl (.eqI (.t rfl) .i64) <| Ag rfl rfl <| WL.ns ?_
 have hr := Si hm
 clear hm
 subst hr
 exact W.ret1 () rfl (.t rfl) trivial
theorem math_bits_TrailingZeros64_spec (x : Int) (r : Int) (hm : M.math_bits_TrailingZeros64 x = some r) : FSpecR Tryz.prog 114 [((tI .u64).is x)] [(700007, Gl (tA 64 (tI .u8)) 7 gv7)] (fun _ : Unit => (I6.is r)) (fun _ => []) := by
 unfold M.math_bits_TrailingZeros64 at hm
 refine FSpecR.of Tryz.func114 rfl rfl rfl fun g0 => Aw <| Ao rfl (.assign .i64) <| An <| W.seq <| Aw <| Am rfl rfl <| Ao rfl (.eqI (.t rfl) (.int (by decide))) <| An <| W.cD hm (.t rfl) (fun hp2 hm => ?_) (fun hp2 hm => ?_)
 ·refine Aw <| Ao rfl (.assign .i64) <| WL.ns ?_
  have hr := Si hm
  clear hm
  subst hr
  exact W.ret1 () rfl (.t rfl) trivial
 ·refine W.skip <| Aq <| Aw <| Am rfl rfl <| Am rfl rfl <| Ao rfl (.negU (.t rfl)) <| Ao rfl (.andU (.t rfl) (.t rfl)) <| Ao rfl (.mulU (.t rfl) (.int (by decide))) <| Ao rfl (.shrUU (.t rfl) (.int (by decide))) ?_
  obtain ⟨v, hv3, hm⟩ := Bs hm
  refine WL.addG 900007 700007 rfl <| Ao rfl (.idxA hv3 U155 Z5 (Opd.glob (s := 900007) rfl) (.t rfl)) <| Ao rfl (.load ty5 (.t rfl)) <| Ao rfl (.conv8 U5 U3 (.t rfl)) <| Ag rfl rfl <| WL.ns ?_
  have hr := Si hm
  clear hm
  subst hr
  exact W.ret1 () rfl (.t rfl) trivial
theorem math_bits_TrailingZeros_spec (x : Int) (r : Int) (hm : M.math_bits_TrailingZeros x = some r) : FSpecR Tryz.prog 107 [((tI .u64).is x)] [(700007, Gl (tA 64 (tI .u8)) 7 gv7)] (fun _ : Unit => (I6.is r)) (fun _ => []) := by
 unfold M.math_bits_TrailingZeros at hm
 refine FSpecR.of Tryz.func107 rfl rfl rfl fun g0 => Aw <| Ao rfl (.assign .i64) <| An <| W.seq <| W.condF .bool <| W.skip <| Aq <| Aw <| WL.mv rfl rfl ?_
 obtain ⟨traili, hv1, hm⟩ := Bs hm
 refine Ao rfl (.callG (rin := [(700007, Gl (tA 64 (tI .u8)) 7 gv7)]) C114 (math_bits_TrailingZeros64_spec _ _ hv1) ⟨rfl, trivial⟩ ⟨rfl, rfl, trivial⟩ ⟨(.t rfl), trivial⟩) <| Ag rfl rfl <| WL.ns ?_
 have hr := Si hm
 clear hm
 subst hr
 exact W.ret1 () rfl (.t rfl) trivial
theorem internal_strconv_formatBits_spec (n : Nat) (dst : List Int) (u : Int) (base : Int) (neg : Bool) (append : Bool) (r : (List Int) × Str) (hm : M.internal_strconv_formatBits n dst u base neg append = some r) : FSpecR Tryz.prog 89 [((tL (tI .u8)).is dst), ((tI .u64).is u), (I6.is base), (tB.is neg), (tB.is append)] [(700007, Gl (tA 64 (tI .u8)) 7 gv7)] (fun _ : Unit => (Asn.tuple2 ((tL (tI .u8)).is r.1) (tS.is r.2))) (fun _ => []) := by
 unfold M.internal_strconv_formatBits at hm
 refine FSpecR.of Tryz.func89 rfl rfl rfl fun g0 => Aw <| Ao rfl (.assign (.nil (t := (tI .u8)))) <| Ao rfl (.assign (.str rfl (by decide))) <| WL.ns ?_
 obtain ⟨s1, hs2, hk3⟩ := Bs hm
 clear hm
 refine W.join (fun s : Unit => s = s1) (fun s => [(0, ((tL (tI .u8)).is dst)), (1, ((tI .u64).is u)), (2, (I6.is base)), (3, (tB.is neg)), (4, (tB.is append)), (10, ((tL (tI .u8)).is ([] : List Int))), (11, (tS.is ([] : Str)))]) (fun s => [(700007, Gl (tA 64 (tI .u8)) 7 gv7)]) ?_ ?_
 ·rintro _ hj60
  try dsimp only at hj60
  subst hj60
  have hm := hk3
  clear hk3
  try dsimp only at hm
  change W _ _ _ _ _ _ _ [(0, ((tL (tI .u8)).is dst)), (1, ((tI .u64).is u)), (2, (I6.is base)), (3, (tB.is neg)), (4, (tB.is append)), (10, ((tL (tI .u8)).is ([] : List Int))), (11, (tS.is ([] : Str)))] [(700007, Gl (tA 64 (tI .u8)) 7 gv7)]
  refine Aw <| WL.opR rfl (OpR.alloc 12 ze141) fun b => Ar <| Ao rfl (.assign .i64) <| WL.ns ?_
  obtain ⟨s10, hs11, hk12⟩ := Bs hm
  clear hm
  refine W.join (fun s : Int => s = s10) (fun s => [(1, ((tI .u64).is s)), (0, ((tL (tI .u8)).is dst)), (2, (I6.is base)), (3, (tB.is neg)), (4, (tB.is append)), (10, ((tL (tI .u8)).is ([] : List Int))), (11, (tS.is ([] : Str))), (12, (Bp b 0)), (13, (I6.is (65 : Int)))]) (fun s => [(12, (Bx 65 true 141 ((tA 65 (tI .u8)).is (List.replicate 65 (0 : Int))) b)), (700007, Gl (tA 64 (tI .u8)) 7 gv7)]) ?_ ?_
  ·rintro u1 hj59
   try dsimp only at hj59
   subst hj59
   have hm := hk12
   clear hk12
   try dsimp only at hm
   change W _ _ _ _ _ _ _ [(1, ((tI .u64).is u1)), (0, ((tL (tI .u8)).is dst)), (2, (I6.is base)), (3, (tB.is neg)), (4, (tB.is append)), (10, ((tL (tI .u8)).is ([] : List Int))), (11, (tS.is ([] : Str))), (12, (Bp b 0)), (13, (I6.is (65 : Int)))] [(12, (Bx 65 true 141 ((tA 65 (tI .u8)).is (List.replicate 65 (0 : Int))) b)), (700007, Gl (tA 64 (tI .u8)) 7 gv7)]
   obtain ⟨s15, hs16, hk17⟩ := Bs hm
   clear hm
   refine W.join (fun s : Int × (List Int) => s = s15) (fun s => [(13, (I6.is s.1)), (0, ((tL (tI .u8)).is dst)), (3, (tB.is neg)), (4, (tB.is append)), (10, ((tL (tI .u8)).is ([] : List Int))), (11, (tS.is ([] : Str))), (12, (Bp b 0))]) (fun s => [(12, (Bx 65 true 141 ((tA 65 (tI .u8)).is s.2) b)), (700007, Gl (tA 64 (tI .u8)) 7 gv7)]) ?_ ?_
   ·rintro ⟨i, a⟩ hj58
    try dsimp only at hj58
    subst hj58
    have hm := hk17
    clear hk17
    try dsimp only at hm
    change W _ _ _ _ _ _ _ [(13, (I6.is i)), (0, ((tL (tI .u8)).is dst)), (3, (tB.is neg)), (4, (tB.is append)), (10, ((tL (tI .u8)).is ([] : List Int))), (11, (tS.is ([] : Str))), (12, (Bp b 0))] [(12, (Bx 65 true 141 ((tA 65 (tI .u8)).is a) b)), (700007, Gl (tA 64 (tI .u8)) 7 gv7)]
    obtain ⟨s46, hs47, hk48⟩ := Bs hm
    clear hm
    refine W.join (fun s : Int × (List Int) => s = s46) (fun s => [(13, (I6.is s.1)), (0, ((tL (tI .u8)).is dst)), (4, (tB.is append)), (10, ((tL (tI .u8)).is ([] : List Int))), (11, (tS.is ([] : Str))), (12, (Bp b 0))]) (fun s => [(12, (Bx 65 true 141 ((tA 65 (tI .u8)).is s.2) b)), (700007, Gl (tA 64 (tI .u8)) 7 gv7)]) ?_ ?_
    ·rintro ⟨i3, a3⟩ hj57
     try dsimp only at hj57
     subst hj57
     have hm := hk48
     clear hk48
     try dsimp only at hm
     change W _ _ _ _ _ _ _ [(13, (I6.is i3)), (0, ((tL (tI .u8)).is dst)), (4, (tB.is append)), (10, ((tL (tI .u8)).is ([] : List Int))), (11, (tS.is ([] : Str))), (12, (Bp b 0))] [(12, (Bx 65 true 141 ((tA 65 (tI .u8)).is a3) b)), (700007, Gl (tA 64 (tI .u8)) 7 gv7)]
     refine W.seq <| Aw <| Am rfl rfl <| An <| W.cB hm (.t rfl) (fun hp54 hm => ?_) (fun hp54 hm => ?_)
     ·cases hm
     ·refine W.skip <| Aq <| Aw <| WL.mv rfl rfl ?_
      obtain ⟨v6, hv56, hm⟩ := Bs hm
      refine WL.sealed (t := (tA 65 (tI .u8))) (u := a3) 12 12 rfl rfl <| Ao rfl (.sliceArr hv56 U141 Z5 (.t rfl) (.t rfl) (by decide)) <| Ao rfl (.strB U38 U9 U5 (.t rfl)) <| Ag rfl rfl <| WL.ns ?_
      have hr := Si hm
      clear hm
      subst hr
      exact W.ret2 () rfl rfl (.t rfl) (.t rfl) trivial
    ·have hm := hs47
     clear hs47
     refine Aw <| Am rfl rfl <| An <| W.cB hm (.t rfl) (fun hp50 hm => ?_) (fun hp50 hm => ?_)
     ·refine Aw <| WL.mv rfl rfl ?_
      obtain ⟨v4, hv51, hm⟩ := Bs hm
      refine Ao rfl (.subC hv51 (.t rfl) .i64) <| Ag rfl rfl <| WL.nr1 <| WL.mv rfl rfl ?_
      obtain ⟨_, hv52, hm⟩ := Bs hm
      exact Ao rfl (.indexAddrB U141 Z5 (.t rfl) (.t rfl) (rngC_in hv52)) <| WL.opU (OpR.storeBF (b := b) 12 rfl ty5 (FldSet.arr (rngC_nat hv52)) rfl (arr_le (rngC_nat hv52)) (.t rfl) (.int (inR8.2 (by omega)))) fun _ => WL.nil <| WN.meet (v4, a.set v4.toNat (45 : Int)) (Si hm) ⟨.q rfl, .q rfl, .q rfl, .q rfl, .q rfl, .q rfl, trivial⟩ ⟨rfl, rfl, ⟨rfl, rfl, trivial⟩⟩
     ·exact W.skip <| WN.meet (i, a) (Si hm) ⟨.q rfl, .q rfl, .q rfl, .q rfl, .q rfl, .q rfl, trivial⟩ ⟨rfl, rfl, ⟨rfl, rfl, trivial⟩⟩
   ·have hm := hs16
    clear hs16
    refine Aw <| WL.mv rfl rfl ?_
    obtain ⟨ispowe, hv18, hm⟩ := Bs hm
    refine Ao rfl (.call C106 (internal_strconv_isPowerOfTwo_spec _ _ hv18) ⟨(.t rfl), trivial⟩) <| An <| W.cB hm (.t rfl) (fun hp20 hm => ?_) (fun hp20 hm => ?_)
    ·refine Aw <| Am rfl rfl <| Ao rfl (.convU U3 U96 (.t rfl)) ?_
     obtain ⟨traili, hv21, hm⟩ := Bs hm
     refine Ao rfl (.callG (rin := [(700007, Gl (tA 64 (tI .u8)) 7 gv7)]) C107 (math_bits_TrailingZeros_spec _ _ hv21) ⟨rfl, trivial⟩ ⟨rfl, rfl, trivial⟩ ⟨(.t rfl), trivial⟩) <| Ao rfl (.convU U3 U96 (.t rfl)) <| Ag rfl rfl <| Ar <| Am rfl rfl <| Ao rfl (.convU U3 U95 (.t rfl)) <| Ag rfl rfl <| Ar <| Am rfl rfl <| Ao rfl (.convU U3 U96 (.t rfl)) <| Ao rfl (.subU (.t rfl) (.int (by decide))) <| Ag rfl rfl <| An <| W.seq <| W.block ?_
     obtain ⟨s22, hs23, hk24⟩ := Bs hm
     clear hm
     refine W.loop (fun m (s : Int × Int × (List Int)) => M.internal_strconv_formatBits_loop1 base traili m s.1 s.2.1 s.2.2 = some s22) (fun s => [(1, ((tI .u64).is s.1)), (13, (I6.is s.2.1)), (0, ((tL (tI .u8)).is dst)), (3, (tB.is neg)), (4, (tB.is append)), (10, ((tL (tI .u8)).is ([] : List Int))), (11, (tS.is ([] : Str))), (12, (Bp b 0)), (14, ((tI .u64).is (wrapU traili))), (15, ((tI .u64).is (wrapU base))), (16, ((tI .u64).is (wrapU ((wrapU base) - (1 : Int)))))]) (fun s => [(12, (Bx 65 true 141 ((tA 65 (tI .u8)).is s.2.2) b)), (700007, Gl (tA 64 (tI .u8)) 7 gv7)]) _ (u1, (65 : Int), (List.replicate 65 (0 : Int))) hs23 ⟨.q rfl, .q rfl, .q rfl, .q rfl, .q rfl, .q rfl, .q rfl, .q rfl, .q rfl, .q rfl, .q rfl, trivial⟩ ⟨rfl, rfl, ⟨rfl, rfl, trivial⟩⟩ ?_
     rintro n25 ⟨u2, i1, a1⟩ hm
     try dsimp only at hm
     change W _ _ _ _ _ _ _ [(1, ((tI .u64).is u2)), (13, (I6.is i1)), (0, ((tL (tI .u8)).is dst)), (3, (tB.is neg)), (4, (tB.is append)), (10, ((tL (tI .u8)).is ([] : List Int))), (11, (tS.is ([] : Str))), (12, (Bp b 0)), (14, ((tI .u64).is (wrapU traili))), (15, ((tI .u64).is (wrapU base))), (16, ((tI .u64).is (wrapU ((wrapU base) - (1 : Int)))))] [(12, (Bx 65 true 141 ((tA 65 (tI .u8)).is a1) b)), (700007, Gl (tA 64 (tI .u8)) 7 gv7)]
     cases n25 with
     | zero => rw [M.internal_strconv_formatBits_loop1.eq_1] at hm; cases hm
     | succ n25 =>
      rw [M.internal_strconv_formatBits_loop1.eq_2] at hm
      refine W.seq <| Aw <| Am rfl rfl <| Am rfl rfl <| Ao rfl (.geI (.t rfl) (.t rfl)) <| An <| W.cD hm (.t rfl) (fun hp27 hm => ?_) (fun hp27 hm => ?_)
      ·refine W.skip <| Aq <| W.block <| Aw <| WL.mv rfl rfl ?_
       obtain ⟨v, hv28, hm⟩ := Bs hm
       refine Ao rfl (.subC hv28 (.t rfl) .i64) <| Ag rfl rfl <| Ar <| Am rfl rfl <| Am rfl rfl <| Am rfl rfl <| Ao rfl (.andU (.t rfl) (.t rfl)) ?_
       obtain ⟨b1, hv29, hm⟩ := Bs hm
       refine Ao rfl (.sidx hv29 U9 (.str rfl (by decide)) (.t rfl)) ?_
       obtain ⟨_, hv30, hm⟩ := Bs hm
       exact Ao rfl (.indexAddrB U141 Z5 (.t rfl) (.t rfl) (rngC_in hv30)) <| WL.opU (OpR.storeBF (b := b) 12 rfl ty5 (FldSet.arr (rngC_nat hv30)) rfl (arr_le (rngC_nat hv30)) (.t rfl) (.t rfl)) fun _ => WL.nr1 <| Am rfl rfl <| Am rfl rfl <| Ao rfl (.shrUU (.t rfl) (.t rfl)) <| Ag rfl rfl <| WL.nil <| WN.block <| WN.again n25 (shrU u2 (wrapU traili), v, a1.set v.toNat (b1.toNat : Int)) (Nat.lt_succ_self n25) hm ⟨.q rfl, .q rfl, .q rfl, .q rfl, .q rfl, .q rfl, .q rfl, .q rfl, .q rfl, .q rfl, .q rfl, trivial⟩ ⟨rfl, rfl, ⟨rfl, rfl, trivial⟩⟩
      ·refine W.exit rfl ?_
       have hr31 := Si hm
       clear hm
       subst hr31
       have hm := hk24
       try dsimp only at hm
       refine Aq <| Aw <| WL.mv rfl rfl ?_
       obtain ⟨v1, hv32, hm⟩ := Bs hm
       refine Ao rfl (.subC hv32 (.t rfl) .i64) <| Ag rfl rfl <| WL.nr1 <| Am rfl rfl <| WL.mv rfl rfl ?_
       obtain ⟨b2, hv33, hm⟩ := Bs hm
       refine Ao rfl (.sidx hv33 U9 (.str rfl (by decide)) (.t rfl)) ?_
       obtain ⟨_, hv34, hm⟩ := Bs hm
       exact Ao rfl (.indexAddrB U141 Z5 (.t rfl) (.t rfl) (rngC_in hv34)) <| WL.opU (OpR.storeBF (b := b) 12 rfl ty5 (FldSet.arr (rngC_nat hv34)) rfl (arr_le (rngC_nat hv34)) (.t rfl) (.t rfl)) fun _ => WL.nil <| WN.meet (v1, a1.set v1.toNat (b2.toNat : Int)) (Si hm) ⟨.q rfl, .q rfl, .q rfl, .q rfl, .q rfl, .q rfl, .q rfl, trivial⟩ ⟨rfl, rfl, ⟨rfl, rfl, trivial⟩⟩
    ·refine Aw <| Am rfl rfl <| Ao rfl (.convU U3 U95 (.t rfl)) <| Ag rfl rfl <| An <| W.seq <| W.block ?_
     obtain ⟨s35, hs36, hk37⟩ := Bs hm
     clear hm
     refine W.loop (fun m (s : Int × Int × (List Int)) => M.internal_strconv_formatBits_loop2 base m s.1 s.2.1 s.2.2 = some s35) (fun s => [(1, ((tI .u64).is s.1)), (13, (I6.is s.2.1)), (0, ((tL (tI .u8)).is dst)), (3, (tB.is neg)), (4, (tB.is append)), (10, ((tL (tI .u8)).is ([] : List Int))), (11, (tS.is ([] : Str))), (12, (Bp b 0)), (17, ((tI .u64).is (wrapU base)))]) (fun s => [(12, (Bx 65 true 141 ((tA 65 (tI .u8)).is s.2.2) b)), (700007, Gl (tA 64 (tI .u8)) 7 gv7)]) _ (u1, (65 : Int), (List.replicate 65 (0 : Int))) hs36 ⟨.q rfl, .q rfl, .q rfl, .q rfl, .q rfl, .q rfl, .q rfl, .q rfl, .q rfl, trivial⟩ ⟨rfl, rfl, ⟨rfl, rfl, trivial⟩⟩ ?_
     rintro n38 ⟨u3, i2, a2⟩ hm
     try dsimp only at hm
     change W _ _ _ _ _ _ _ [(1, ((tI .u64).is u3)), (13, (I6.is i2)), (0, ((tL (tI .u8)).is dst)), (3, (tB.is neg)), (4, (tB.is append)), (10, ((tL (tI .u8)).is ([] : List Int))), (11, (tS.is ([] : Str))), (12, (Bp b 0)), (17, ((tI .u64).is (wrapU base)))] [(12, (Bx 65 true 141 ((tA 65 (tI .u8)).is a2) b)), (700007, Gl (tA 64 (tI .u8)) 7 gv7)]
     cases n38 with
     | zero => rw [M.internal_strconv_formatBits_loop2.eq_1] at hm; cases hm
     | succ n38 =>
      rw [M.internal_strconv_formatBits_loop2.eq_2] at hm
      refine W.seq <| Aw <| Am rfl rfl <| Am rfl rfl <| Ao rfl (.geI (.t rfl) (.t rfl)) <| An <| W.cD hm (.t rfl) (fun hp40 hm => ?_) (fun hp40 hm => ?_)
      ·cases hm
      ·refine W.exit rfl ?_
       have hr42 := Si hm
       clear hm
       subst hr42
       have hm := hk37
       try dsimp only at hm
       refine Aq <| Aw <| WL.mv rfl rfl ?_
       obtain ⟨v3, hv43, hm⟩ := Bs hm
       refine Ao rfl (.subC hv43 (.t rfl) .i64) <| Ag rfl rfl <| WL.nr1 <| Am rfl rfl <| WL.mv rfl rfl ?_
       obtain ⟨b3, hv44, hm⟩ := Bs hm
       refine Ao rfl (.sidx hv44 U9 (.str rfl (by decide)) (.t rfl)) ?_
       obtain ⟨_, hv45, hm⟩ := Bs hm
       exact Ao rfl (.indexAddrB U141 Z5 (.t rfl) (.t rfl) (rngC_in hv45)) <| WL.opU (OpR.storeBF (b := b) 12 rfl ty5 (FldSet.arr (rngC_nat hv45)) rfl (arr_le (rngC_nat hv45)) (.t rfl) (.t rfl)) fun _ => WL.nil <| WN.meet (v3, a2.set v3.toNat (b3.toNat : Int)) (Si hm) ⟨.q rfl, .q rfl, .q rfl, .q rfl, .q rfl, .q rfl, .q rfl, trivial⟩ ⟨rfl, rfl, ⟨rfl, rfl, trivial⟩⟩
  ·have hm := hs11
   clear hs11
   refine Aw <| Am rfl rfl <| An <| W.cB hm (.t rfl) (fun hp14 hm => ?_) (fun hp14 hm => ?_)
   ·exact W.region <| Am rfl rfl <| Ao rfl (.negU (.t rfl)) <| Ag rfl rfl <| WL.nil <| WN.meet (wrapU (0 - u)) (Si hm) ⟨.q rfl, .q rfl, .q rfl, .q rfl, .q rfl, .q rfl, .q rfl, .q rfl, .q rfl, trivial⟩ ⟨rfl, rfl, ⟨rfl, rfl, trivial⟩⟩
   ·exact W.skip <| WN.meet u (Si hm) ⟨.q rfl, .q rfl, .q rfl, .q rfl, .q rfl, .q rfl, .q rfl, .q rfl, .q rfl, trivial⟩ ⟨rfl, rfl, ⟨rfl, rfl, trivial⟩⟩
 ·have hm := hs2
  clear hs2
  refine Aw <| Am rfl rfl <| Ao rfl (.ltI (.t rfl) .i64) <| WL.mv rfl rfl ?_
  rcases iteD hm with ⟨hp5, hb4, hm⟩ | ⟨hp5, hb4, hm⟩
  ·refine Ap rfl hb4 <| Ap rfl hb4 <| Ao rfl (.pickT (.t rfl) hb4 .bool) <| Am rfl rfl <| Ap rfl rfl <| Ap rfl rfl <| Ao rfl (.pickT (.t rfl) rfl .bool) <| An <| W.condT (.t rfl) ?_
   cases hm
  ·refine Ax rfl hb4 (.move (.t rfl)) <| Ax rfl hb4 (.eqI (.t rfl) .i64) <| Ao rfl (.pickF (.t rfl) hb4 (.t rfl)) <| WL.mv rfl rfl ?_
   rcases iteD hm with ⟨hp7, hb6, hm⟩ | ⟨hp7, hb6, hm⟩
   ·refine Ap rfl hb6 <| Ap rfl hb6 <| Ao rfl (.pickT (.t rfl) hb6 .bool) <| An <| W.condT (.t rfl) ?_
    cases hm
   ·refine Ax rfl hb6 (.move (.t rfl)) <| Ax rfl hb6 (.gtI (.t rfl) .i64) <| Ao rfl (.pickF (.t rfl) hb6 (.t rfl)) <| An <| W.cD hm (.t rfl) (fun hp9 hm => ?_) (fun hp9 hm => ?_)
    ·cases hm
    ·exact W.skip <| WN.meet () (Si hm) ⟨.q rfl, .q rfl, .q rfl, .q rfl, .q rfl, .q rfl, .q rfl, trivial⟩ ⟨rfl, rfl, trivial⟩
theorem internal_strconv_FormatUint_spec (n : Nat) (i : Int) (base : Int) (r : Str) (hm : M.internal_strconv_FormatUint n i base = some r) : FSpecR Tryz.prog 72 [((tI .u64).is i), (I6.is base)] [(700007, Gl (tA 64 (tI .u8)) 7 gv7)] (fun _ : Unit => (tS.is r)) (fun _ => []) := by
 unfold M.internal_strconv_FormatUint at hm
 refine FSpecR.of Tryz.func72 rfl rfl rfl fun g0 => Aw <| Ao rfl (.assign (.str rfl (by decide))) <| An <| W.seq <| Aw <| Am rfl rfl <| Ao rfl (.eqI (.t rfl) .i64) <| An <| W.cD hm (.t rfl) (fun hp2 hm => ?_) (fun hp2 hm => ?_)
 ·refine W.seq <| Aw <| Am rfl rfl <| Ao rfl (.ltI (.t rfl) (.int (by decide))) <| An <| W.cD hm (.t rfl) (fun hp4 hm => ?_) (fun hp4 hm => ?_)
  ·refine Aw <| Am rfl rfl <| Ao rfl (.conv64 U95 U3 (.t rfl)) ?_
   obtain ⟨small, hv5, hm⟩ := Bs hm
   refine Ao rfl (.call C86 (internal_strconv_small_spec _ _ hv5) ⟨(.t rfl), trivial⟩) <| Ag rfl rfl <| WL.ns ?_
   have hr := Si hm
   clear hm
   subst hr
   exact W.ret1 () rfl (.t rfl) trivial
  ·cases hm
 ·refine W.skip <| Aq <| Aw <| Am rfl rfl <| WL.mv rfl rfl ?_
  obtain ⟨format, hv6, hm⟩ := Bs hm
  refine Ao rfl (.callG (rin := [(700007, Gl (tA 64 (tI .u8)) 7 gv7)]) C89 (internal_strconv_formatBits_spec _ _ _ _ _ _ _ hv6) ⟨rfl, trivial⟩ ⟨rfl, rfl, trivial⟩ ⟨(.nil (t := (tI .u8))), (.t rfl), (.t rfl), .bool, .bool, trivial⟩) <| Am rfl rfl <| Ao rfl (.extract0 (.t rfl)) <| Ao rfl (.extract1 (.t rfl)) <| Ag rfl rfl <| Ag rfl rfl <| Ar <| Am rfl rfl <| Ag rfl rfl <| WL.ns ?_
  have hr := Si hm
  clear hm
  subst hr
  exact W.ret1 () rfl (.t rfl) trivial
theorem strconv_FormatUint_spec (n : Nat) (i : Int) (base : Int) (r : Str) (hm : M.strconv_FormatUint n i base = some r) : FSpecR Tryz.prog 63 [((tI .u64).is i), (I6.is base)] [(700007, Gl (tA 64 (tI .u8)) 7 gv7)] (fun _ : Unit => (tS.is r)) (fun _ => []) := by
 unfold M.strconv_FormatUint at hm
 refine FSpecR.of Tryz.func63 rfl rfl rfl fun g0 => Aw <| Ao rfl (.assign (.str rfl (by decide))) <| Ar <| Am rfl rfl <| WL.mv rfl rfl ?_
 obtain ⟨format, hv1, hm⟩ := Bs hm
 refine Ao rfl (.callG (rin := [(700007, Gl (tA 64 (tI .u8)) 7 gv7)]) C72 (internal_strconv_FormatUint_spec _ _ _ _ hv1) ⟨rfl, trivial⟩ ⟨rfl, rfl, trivial⟩ ⟨(.t rfl), (.t rfl), trivial⟩) <| Ag rfl rfl <| WL.ns ?_
 have hr := Si hm
 clear hm
 subst hr
 exact W.ret1 () rfl (.t rfl) trivial
theorem strings_Repeat_spec (s : Str) (n r : _) (hm : repeatM s n = some r) : FSpec Tryz.prog 64 [tS.is s, I6.is n] (tS.is r) :=
 repeat_spec (fun s c w hc hl => Tryz.strings_Repeat s c w hc hl) s n r hm
theorem digest_Sum_spec (n : Nat) (s0_ : Str) (r : Str) (hm : M.digest_Sum n s0_ = some r) : FSpecR Tryz.prog 56 [(tS.is s0_)] [(700007, Gl (tA 64 (tI .u8)) 7 gv7)] (fun _ : Unit => (tS.is r)) (fun _ => []) := by
 unfold M.digest_Sum at hm
 refine FSpecR.of Tryz.func56 rfl rfl rfl fun g0 => Aw <| Ao rfl (.assign (.str rfl (by decide))) <| Ar <| Ao rfl (.assign (.int (by decide))) <| An <| W.seq <| Aw <| Am rfl rfl <| Ao rfl (.bytes U9 U38 U5 (.t rfl)) <| Ao rfl (.lenL U38 (.t rfl)) <| Ao rfl (.move .i64) <| An <| W.block ?_
 obtain ⟨s1, hs2, hk3⟩ := Bs hm
 clear hm
 refine W.loop (fun m (s : Int × List Int × List Int × Int) => m = s.2.2.1.length ∧ bytesOf s0_ = s.2.1 ++ s.2.2.1 ∧ s.1 = (s.2.1.length : Int) ∧ M.digest_Sum_loop1 s.2.2.1 s.2.2.2 = some s1) (fun s => [(10, (I6.is s.1)), (3, ((tI .u64).is s.2.2.2)), (8, ((tL (tI .u8)).is (bytesOf s0_))), (9, (I6.is ((bytesOf s0_).length : Int)))]) (fun s => [(700007, Gl (tA 64 (tI .u8)) 7 gv7)]) (bytesOf s0_).length ((0 : Int), [], bytesOf s0_, (11400714819323198485 : Int)) ⟨rfl, rfl, rfl, hs2⟩ ⟨.q rfl, .q rfl, .q rfl, .q rfl, trivial⟩ ⟨rfl, rfl, trivial⟩ ?_
 rintro m ⟨i, pre, rest1, h⟩ ⟨hn7, hxs4, hi5, hm⟩
 try dsimp only at hn7 hxs4 hi5 hm
 change W _ _ _ _ _ _ _ [(10, (I6.is i)), (3, ((tI .u64).is h)), (8, ((tL (tI .u8)).is (bytesOf s0_))), (9, (I6.is ((bytesOf s0_).length : Int)))] [(700007, Gl (tA 64 (tI .u8)) 7 gv7)]
 refine W.lenL (s := 8) (.t rfl) fun hlen6 => Aw <| Ao rfl (.ltI (.t rfl) (.t rfl)) <| An <| W.seq <| W.cond (.t rfl) (fun hc9 => ?_) (fun hc9 => ?_)
 ·have hp10 := of_decide_eq_true hc9
  obtain ⟨e, es, hrest12⟩ := range_more hxs4 hi5 hp10
  subst hrest12
  rw [M.digest_Sum_loop1.eq_2] at hm
  refine W.skip <| Aq <| W.seq <| W.block <| Aw <| Ao rfl (.idxPre hxs4 hi5 U38 Z5 (.t rfl) (.t rfl)) <| Ao rfl (.load ty5 (.t rfl)) <| Ag rfl rfl <| Ar <| Am rfl rfl <| Am rfl rfl <| Ao rfl (.convU U5 U95 (.t rfl)) <| Ao rfl (.addU (.t rfl) (.t rfl)) <| Ao rfl (.addU (.t rfl) (.int (by decide))) <| Ao rfl (.mulU (.t rfl) (.int (by decide))) <| WL.gv rfl rfl ?_
  exact WL.nr1 <| Am rfl rfl <| Am rfl rfl <| Ao rfl (.shrUU (.t rfl) (.int (by decide))) <| Ao rfl (.xorU (.t rfl) (.t rfl)) <| Ag rfl rfl <| WL.nil <| WN.block <| Aq <| W.region <| Ao rfl (.addI (.t rfl) .i64 (range_inR hi5 hp10 hlen6)) <| Am rfl rfl <| WL.nil <| WN.again es.length (i + 1, pre ++ [e], es, xorU (wrapU ((wrapU ((wrapU (h + (wrapU e))) + (1 : Int))) * (10723151780598845931 : Int))) (shrU (wrapU ((wrapU ((wrapU (h + (wrapU e))) + (1 : Int))) * (10723151780598845931 : Int))) (31 : Int))) (range_lt hn7) ⟨rfl, range_step hxs4, range_idx hi5, hm⟩ ⟨.q rfl, .q rfl, .q rfl, .q rfl, trivial⟩ ⟨rfl, rfl, trivial⟩
 ·have hrest12 := range_end hxs4 hi5 (of_decide_eq_false hc9)
  subst hrest12
  rw [M.digest_Sum_loop1.eq_1] at hm
  refine W.exit rfl ?_
  have hr13 := Si hm
  clear hm
  subst hr13
  have hm := hk3
  try dsimp only at hm
  refine Aq <| Aw <| WL.mv rfl rfl ?_
  obtain ⟨format, hv14, hm⟩ := Bs hm
  refine Ao rfl (.callG (rin := [(700007, Gl (tA 64 (tI .u8)) 7 gv7)]) C63 (strconv_FormatUint_spec _ _ _ _ hv14) ⟨rfl, trivial⟩ ⟨rfl, rfl, trivial⟩ ⟨(.t rfl), .i64, trivial⟩) <| Ag rfl rfl <| Ar <| Am rfl rfl <| Ao rfl (.lenS U9 (.t rfl)) ?_
  obtain ⟨v, hv15, hm⟩ := Bs hm
  refine Ao rfl (.subC hv15 .i64 (.t rfl)) ?_
  obtain ⟨repeat0_, hv16, hm⟩ := Bs hm
  refine Ao rfl (.call C64 (strings_Repeat_spec _ _ _ hv16) ⟨(.str rfl (by decide)), (.t rfl), trivial⟩) <| WL.mv rfl rfl ?_
  obtain ⟨v1, hv17, hm⟩ := Bs hm
  refine Ao rfl (.catC hv17 (.t rfl) (.t rfl)) <| Ag rfl rfl <| WL.ns ?_
  have hr := Si hm
  clear hm
  subst hr
  exact W.ret1 () rfl (.t rfl) trivial
theorem journal_sum_spec (n : Nat) (ahead : Str) (sign : Str) (text : Str) (r : Str) (hm : M.journal_sum n ahead sign text = some r) : FSpecR Tryz.prog 45 [(tS.is ahead), (tS.is sign), (tS.is text)] [(700007, Gl (tA 64 (tI .u8)) 7 gv7)] (fun _ : Unit => (tS.is r)) (fun _ => []) := by
 unfold M.journal_sum at hm
 refine FSpecR.of Tryz.func45 rfl rfl rfl fun g0 => Aw <| Ao rfl (.assign (.str rfl (by decide))) <| Ar <| WL.mv rfl rfl ?_
 obtain ⟨v, hv1, hm⟩ := Bs hm
 refine Ao rfl (.catC hv1 (.t rfl) (.str rfl (by decide))) <| WL.mv rfl rfl ?_
 obtain ⟨v1, hv2, hm⟩ := Bs hm
 refine Ao rfl (.catC hv2 (.t rfl) (.t rfl)) ?_
 obtain ⟨v2, hv3, hm⟩ := Bs hm
 refine Ao rfl (.catC hv3 (.t rfl) (.str rfl (by decide))) <| WL.mv rfl rfl ?_
 obtain ⟨v3, hv4, hm⟩ := Bs hm
 refine Ao rfl (.catC hv4 (.t rfl) (.t rfl)) ?_
 obtain ⟨sum, hv5, hm⟩ := Bs hm
 refine Ao rfl (.callG (rin := [(700007, Gl (tA 64 (tI .u8)) 7 gv7)]) C56 (digest_Sum_spec _ _ _ hv5) ⟨rfl, trivial⟩ ⟨rfl, rfl, trivial⟩ ⟨(.t rfl), trivial⟩) <| Ag rfl rfl <| WL.ns ?_
 have hr := Si hm
 clear hm
 subst hr
 exact W.ret1 () rfl (.t rfl) trivial
theorem journal_name_spec (page : Int) (r : Str) (hm : M.journal_name page = some r) : FSpecR Tryz.prog 46 [(I6.is page)] [(700003, GlT Tryz.prog "internal/strconv.uint64pow10" .u64 Lib.pow10Tab)] (fun _ : Unit => (tS.is r)) (fun _ => []) := by
 unfold M.journal_name at hm
 refine FSpecR.of Tryz.func46 rfl rfl rfl fun g0 => Aw <| Ao rfl (.assign (.str rfl (by decide))) <| An <| W.seq <| Aw <| Am rfl rfl <| Ao rfl (.eqI (.t rfl) .i64) <| An <| W.cD hm (.t rfl) (fun hp2 hm => ?_) (fun hp2 hm => ?_)
 ·refine Aw <| Ao rfl (.assign (.str rfl (by decide))) <| WL.ns ?_
  have hr := Si hm
  clear hm
  subst hr
  exact W.ret1 () rfl (.t rfl) trivial
 ·refine W.skip <| Aq <| Aw <| WL.mv rfl rfl ?_
  obtain ⟨itoa, hv3, hm⟩ := Bs hm
  refine Ao rfl (.callG (rin := [(700003, GlT Tryz.prog "internal/strconv.uint64pow10" .u64 Lib.pow10Tab)]) C57 (strconv_Itoa_spec _ _ hv3) ⟨rfl, trivial⟩ ⟨rfl, rfl, trivial⟩ ⟨(.t rfl), trivial⟩) <| Ag rfl rfl <| WL.ns ?_
  have hr := Si hm
  clear hm
  subst hr
  exact W.ret1 () rfl (.t rfl) trivial
theorem journal_page_spec (n : Nat) (m0_ : journal_mark) (sign : Str) (text : Str) (r : Str × Str) (hm : M.journal_page n m0_ sign text = some r) : FSpecR Tryz.prog 34 [(tjournal_mark.is m0_), (tS.is sign), (tS.is text)] [(700003, GlT Tryz.prog "internal/strconv.uint64pow10" .u64 Lib.pow10Tab), (700007, Gl (tA 64 (tI .u8)) 7 gv7)] (fun _ : Unit => (Asn.tuple2 (tS.is r.1) (tS.is r.2))) (fun _ => []) := by
 unfold M.journal_page at hm
 refine FSpecR.of Tryz.func34 rfl rfl rfl fun g0 => Aw <| Ao rfl (.box (.t rfl)) <| Ao rfl (.assign (.str rfl (by decide))) <| Ao rfl (.assign (.str rfl (by decide))) <| Ar <| Ao rfl (.fieldAddr Tryz.underlying58 rfl J9 fjournal_mark_1 (.t rfl)) <| Ao rfl (.load ty9 (.t rfl)) <| Am rfl rfl <| WL.mv rfl rfl ?_
 obtain ⟨sum, hv1, hm⟩ := Bs hm
 refine Ao rfl (.callG (rin := [(700007, Gl (tA 64 (tI .u8)) 7 gv7)]) C45 (journal_sum_spec _ _ _ _ _ hv1) ⟨rfl, trivial⟩ ⟨rfl, rfl, trivial⟩ ⟨(.t rfl), (.t rfl), (.t rfl), trivial⟩) <| Ag rfl rfl <| Ar <| Ao rfl (.fieldAddr Tryz.underlying58 rfl J3 fjournal_mark_0 (.t rfl)) <| Ao rfl (.load ty3 (.t rfl)) ?_
 obtain ⟨name, hv2, hm⟩ := Bs hm
 refine Ao rfl (.callG (rin := [(700003, GlT Tryz.prog "internal/strconv.uint64pow10" .u64 Lib.pow10Tab)]) C46 (journal_name_spec _ _ hv2) ⟨rfl, trivial⟩ ⟨rfl, rfl, trivial⟩ ⟨(.t rfl), trivial⟩) ?_
 obtain ⟨v, hv3, hm⟩ := Bs hm
 refine Ao rfl (.catC hv3 (.t rfl) (.str rfl (by decide))) <| WL.mv rfl rfl ?_
 obtain ⟨v1, hv4, hm⟩ := Bs hm
 refine Ao rfl (.catC hv4 (.t rfl) (.t rfl)) ?_
 obtain ⟨v2, hv5, hm⟩ := Bs hm
 refine Ao rfl (.catC hv5 (.t rfl) (.str rfl (by decide))) <| WL.mv rfl rfl ?_
 obtain ⟨v3, hv6, hm⟩ := Bs hm
 refine Ao rfl (.catC hv6 (.t rfl) (.t rfl)) ?_
 obtain ⟨v4, hv7, hm⟩ := Bs hm
 refine Ao rfl (.catC hv7 (.t rfl) (.str rfl (by decide))) <| WL.mv rfl rfl ?_
 obtain ⟨v5, hv8, hm⟩ := Bs hm
 refine Ao rfl (.catC hv8 (.t rfl) (.t rfl)) <| Am rfl rfl <| Ag rfl rfl <| Ag rfl rfl <| WL.ns ?_
 have hr := Si hm
 clear hm
 subst hr
 exact W.ret2 () rfl rfl (.t rfl) (.t rfl) trivial
theorem strings_Builder_Grow_spec (n : Int) (b : Nat) {u : Unit} (hm : growC n = some u) : FSpecR Tryz.prog 53 [Bp b 0, I6.is n] [(0, Bx 2 true 89 (bldA none [] b) b), (1, Dec.Own (tI .u8) 5 none 0)] (fun _ : Tok => Asn.eq (.tuple #[])) (fun k => [(0, Bx 2 true 89 (bldA k [] b) b), (1, Dec.Own (tI .u8) 5 k 0)]) :=
 FSpecR.bldGrow bld_used bld_fresh bld_Grow 0 1 n b hm
theorem strings_Builder_WriteString_spec (l m r : Str) (k : Tok) (b : Nat) (hm : appC l m = some r) : FSpecR Tryz.prog 54 [Bp b 0, tS.is m] [(0, Bx 2 true 89 (bldA k l b) b), (1, Dec.Own (tI .u8) 5 k l.length)] (fun _ : Tok => Asn.any) (fun kx => [(0, Bx 2 true 89 (bldA kx r b) b), (1, Dec.Own (tI .u8) 5 kx r.length)]) := by
 refine FSpecR.of Tryz.func54 rfl rfl rfl fun g0 => Aw <| Ao rfl (.assign Opd.const) <| Ao rfl (.assign Opd.const) <| Ar <| Am rfl rfl <| WL.opR rfl (OpR.call (us := [0]) C61 (FSpecR.bldCheck bld_used bld_fresh 0 k l b) rfl ⟨(.t rfl), trivial⟩) fun _ => Ar <| Am rfl rfl <| Am rfl rfl <| Ao rfl (.nilCheckB (.t rfl)) <| Ao rfl (.fieldAddrB (o := 0) Tryz.underlying89 rfl J38 (.t rfl) rfl) <| Ao rfl (.loadBld 0 Y38 Z38 rfl (.t rfl)) <| Am rfl rfl <| WL.opR rfl (OpR.appendS (key := 1) hm U38 U9 el5 (.t rfl) (.t rfl) rfl) fun k2 => Ao rfl (.nilCheckB (.t rfl)) ?_
 exact Ao rfl (.fieldAddrB (o := 0) Tryz.underlying89 rfl J38 (.t rfl) rfl) <| WL.opU (OpR.storeBld (b := b) 0 Z38 rfl (.t rfl) (.t rfl)) fun _ => Ar <| Am rfl rfl <| Ao rfl (.lenS U9 (.t rfl)) <| Ag rfl rfl <| Ao rfl (.assign Opd.const) <| WL.nil <| Aq <| W.boxV (A' := bldA k2 r b) 0 rfl (fun _ _ => bldU_A) <| W.retAny2 k2 rfl rfl ⟨rfl, rfl, rfl, rfl, trivial⟩
theorem strings_Builder_String_spec (k : Tok) (l : Str) (b : Nat) : FSpecR Tryz.prog 55 [Bp b 0] [(0, Bx 2 true 89 (bldA k l b) b), (1, Dec.Own (tI .u8) 5 k l.length)] (fun _ : Unit => tS.is l) (fun _ => []) :=
 FSpecR.bldString U100 (by kernel_rfl) bld_str 0 1 k l b
theorem strings_Join_spec (elems : List Str) (sep : Str) (r : Str) (hm : M.strings_Join elems sep = some r) : FSpec Tryz.prog 43 [((tL tS).is elems), (tS.is sep)] (tS.is r) := by
 unfold M.strings_Join at hm
 refine FSpec.of Tryz.func43 rfl rfl rfl fun g0 => Aw <| Ao rfl (.assign (.str rfl (by decide))) <| An <| W.seq <| Aw <| Am rfl rfl <| Ao rfl (.lenL U26 (.t rfl)) <| An <| W.block <| Aw <| Ao rfl (.eqI (.t rfl) .i64) <| Ag rfl rfl <| An <| W.cD hm (.t rfl) (fun hp2 hm => ?_) (fun hp2 hm => ?_)
 ·refine Aw <| Ao rfl (.assign (.str rfl (by decide))) <| WL.ns ?_
  have hr := Si hm
  clear hm
  subst hr
  exact W.ret1 () rfl (.t rfl) trivial
 ·refine Aw <| Ao rfl (.eqI (.t rfl) .i64) <| Ag rfl rfl <| An <| W.cD hm (.t rfl) (fun hp4 hm => ?_) (fun hp4 hm => ?_)
  ·refine Aw <| WL.mv rfl rfl ?_
   obtain ⟨v, hv5, hm⟩ := Bs hm
   refine Ao rfl (.idx hv5 U26 Z9 (.t rfl) .i64) <| Ao rfl (.load ty9 (.t rfl)) <| Ag rfl rfl <| WL.ns ?_
   have hr := Si hm
   clear hm
   subst hr
   exact W.ret1 () rfl (.t rfl) trivial
  ·refine W.skip <| WN.block <| Aq <| Aw <| Ao rfl (.assign .i64) <| WL.ns ?_
   obtain ⟨s6, hs7, hk8⟩ := Bs hm
   clear hm
   refine W.join (fun s : Int => s = s6) (fun s => [(5, (I6.is s)), (0, ((tL tS).is elems)), (1, (tS.is sep))]) (fun s => []) ?_ ?_
   ·rintro n0_ hj58
    try dsimp only at hj58
    subst hj58
    have hm := hk8
    clear hk8
    try dsimp only at hm
    change W _ _ _ _ _ _ _ [(5, (I6.is n0_)), (0, ((tL tS).is elems)), (1, (tS.is sep))] []
    refine W.seq <| Aw <| Am rfl rfl <| Ao rfl (.lenL U26 (.t rfl)) <| Ao rfl (.move .i64) <| An <| W.block ?_
    obtain ⟨s22, hs23, hk24⟩ := Bs hm
    clear hm
    refine W.loop (fun m (s : Int × List Str × List Str × Int) => m = s.2.2.1.length ∧ elems = s.2.1 ++ s.2.2.1 ∧ s.1 = (s.2.1.length : Int) ∧ M.strings_Join_loop1 s.2.2.1 s.2.2.2 = some s22) (fun s => [(41, (I6.is s.1)), (5, (I6.is s.2.2.2)), (0, ((tL tS).is elems)), (1, (tS.is sep)), (39, ((tL tS).is elems)), (40, (I6.is (elems.length : Int)))]) (fun s => []) elems.length ((0 : Int), [], elems, n0_) ⟨rfl, rfl, rfl, hs23⟩ ⟨.q rfl, .q rfl, .q rfl, .q rfl, .q rfl, .q rfl, trivial⟩ trivial ?_
    rintro m ⟨i, pre, rest3, n0_1⟩ ⟨hn28, hxs25, hi26, hm⟩
    try dsimp only at hn28 hxs25 hi26 hm
    change W _ _ _ _ _ _ _ [(41, (I6.is i)), (5, (I6.is n0_1)), (0, ((tL tS).is elems)), (1, (tS.is sep)), (39, ((tL tS).is elems)), (40, (I6.is (elems.length : Int)))] []
    refine W.lenL (s := 39) (.t rfl) fun hlen27 => Aw <| Ao rfl (.ltI (.t rfl) (.t rfl)) <| An <| W.seq <| W.cond (.t rfl) (fun hc30 => ?_) (fun hc30 => ?_)
    ·have hp31 := of_decide_eq_true hc30
     obtain ⟨e, es, hrest33⟩ := range_more hxs25 hi26 hp31
     subst hrest33
     rw [M.strings_Join_loop1.eq_2] at hm
     refine W.skip <| Aq <| W.seq <| W.block <| Aw <| Ao rfl (.idxPre hxs25 hi26 U26 Z9 (.t rfl) (.t rfl)) <| Ao rfl (.load ty9 (.t rfl)) <| Ag rfl rfl <| An <| W.seq <| Aw <| Am rfl rfl <| Ao rfl (.lenS U9 (.t rfl)) <| WL.mv rfl rfl ?_
     obtain ⟨v6, hv34, hm⟩ := Bs hm
     refine Ao rfl (.subC hv34 .i64 (.t rfl)) <| Ao rfl (.gtI (.t rfl) (.t rfl)) <| An <| W.cD hm (.t rfl) (fun hp36 hm => ?_) (fun hp36 hm => ?_)
     ·cases hm
     ·refine W.skip <| Aq <| W.region <| Am rfl rfl <| Am rfl rfl <| Ao rfl (.lenS U9 (.t rfl)) ?_
      obtain ⟨v7, hv37, hm⟩ := Bs hm
      exact Ao rfl (.addC hv37 (.t rfl) (.t rfl)) <| Ag rfl rfl <| WL.nil <| WN.block <| Aq <| W.region <| Ao rfl (.addI (.t rfl) .i64 (range_inR hi26 hp31 hlen27)) <| Am rfl rfl <| WL.nil <| WN.again es.length (i + 1, pre ++ [e], es, v7) (range_lt hn28) ⟨rfl, range_step hxs25, range_idx hi26, hm⟩ ⟨.q rfl, .q rfl, .q rfl, .q rfl, .q rfl, .q rfl, trivial⟩ trivial
    ·have hrest33 := range_end hxs25 hi26 (of_decide_eq_false hc30)
     subst hrest33
     rw [M.strings_Join_loop1.eq_1] at hm
     refine W.exit rfl ?_
     have hr38 := Si hm
     clear hm
     subst hr38
     have hm := hk24
     try dsimp only at hm
     refine Aq <| Aw <| WL.addNil (t := (tI .u8)) (E := 5) 1000008 <| WL.opR rfl (OpR.allocBld 8 Tryz.zeroValue89) fun b => Ar <| WL.mv rfl rfl ?_
     obtain ⟨_, hv39, hm⟩ := Bs hm
     refine WL.weakR (res' := [(8, (Bx 2 true 89 (bldA (none : Tok) ([] : Str) b) b)), (1000008, Dec.Own (tI .u8) 5 (none : Tok) ([] : Str).length)]) ⟨rfl, rfl, ⟨rfl, rfl, trivial⟩⟩ <| WL.opR rfl (OpR.call (us := [8, 1000008]) (A := fun kx : Tok => (Asn.eq (.tuple #[]))) C53 (FSpecR.keys (rin' := [(8, (Bx 2 true 89 (bldA (none : Tok) ([] : Str) b) b)), (1000008, Dec.Own (tI .u8) 5 (none : Tok) ([] : Str).length)]) (out' := fun kx : Tok => [(8, (Bx 2 true 89 (bldA kx ([] : Str) b) b)), (1000008, Dec.Own (tI .u8) 5 kx ([] : Str).length)]) (strings_Builder_Grow_spec _ _ hv39) rfl (fun _ => rfl)) rfl ⟨(.t rfl), (.t rfl), trivial⟩) fun k => Ar <| WL.mv rfl rfl ?_
     obtain ⟨v8, hv40, hm⟩ := Bs hm
     refine Ao rfl (.idx hv40 U26 Z9 (.t rfl) .i64) <| Ao rfl (.load ty9 (.t rfl)) ?_
     obtain ⟨b1, hv41, hm⟩ := Bs hm
     refine WL.weakR (res' := [(8, (Bx 2 true 89 (bldA k ([] : Str) b) b)), (1000008, Dec.Own (tI .u8) 5 k ([] : Str).length)]) ⟨rfl, rfl, ⟨rfl, rfl, trivial⟩⟩ <| WL.opR rfl (OpR.call (us := [8, 1000008]) (A := fun kx : Tok => Asn.any) C54 (FSpecR.keys (rin' := [(8, (Bx 2 true 89 (bldA k ([] : Str) b) b)), (1000008, Dec.Own (tI .u8) 5 k ([] : Str).length)]) (out' := fun kx : Tok => [(8, (Bx 2 true 89 (bldA kx b1 b) b)), (1000008, Dec.Own (tI .u8) 5 kx b1.length)]) (strings_Builder_WriteString_spec _ _ _ _ _ hv41) rfl (fun _ => rfl)) rfl ⟨(.t rfl), (.t rfl), trivial⟩) fun k1 => An <| W.seq <| Aw <| WL.mv rfl rfl ?_
     obtain ⟨v9, hv42, hm⟩ := Bs hm
     refine Ao rfl (.slcLo hv42 U26 Z9 (.t rfl) .i64) <| Ao rfl (.lenL U26 (.t rfl)) <| Ao rfl (.move .i64) <| An <| W.block ?_
     obtain ⟨s43, hs44, hk45⟩ := Bs hm
     clear hm
     refine W.loop (fun m (s : Int × List Str × List Str × ((Str) × Tok)) => m = s.2.2.1.length ∧ v9 = s.2.1 ++ s.2.2.1 ∧ s.1 = (s.2.1.length : Int) ∧ M.strings_Join_loop2 sep s.2.2.1 s.2.2.2.1 = some s43) (fun s => [(65, (I6.is s.1)), (1, (tS.is sep)), (8, (Bp b 0)), (63, ((tL tS).is v9)), (64, (I6.is (v9.length : Int)))]) (fun s => [(1000008, Dec.Own (tI .u8) 5 s.2.2.2.2 s.2.2.2.1.length), (8, (Bx 2 true 89 (bldA s.2.2.2.2 s.2.2.2.1 b) b))]) v9.length ((0 : Int), [], v9, (b1, k1)) ⟨rfl, rfl, rfl, hs44⟩ ⟨.q rfl, .q rfl, .q rfl, .q rfl, .q rfl, trivial⟩ ⟨rfl, rfl, ⟨rfl, rfl, trivial⟩⟩ ?_
     rintro m ⟨i1, pre1, rest2, ⟨b2, k2⟩⟩ ⟨hn49, hxs46, hi47, hm⟩
     try dsimp only at hn49 hxs46 hi47 hm
     change W _ _ _ _ _ _ _ [(65, (I6.is i1)), (1, (tS.is sep)), (8, (Bp b 0)), (63, ((tL tS).is v9)), (64, (I6.is (v9.length : Int)))] [(1000008, Dec.Own (tI .u8) 5 k2 b2.length), (8, (Bx 2 true 89 (bldA k2 b2 b) b))]
     refine W.lenL (s := 63) (.t rfl) fun hlen48 => Aw <| Ao rfl (.ltI (.t rfl) (.t rfl)) <| An <| W.seq <| W.cond (.t rfl) (fun hc51 => ?_) (fun hc51 => ?_)
     ·have hp52 := of_decide_eq_true hc51
      obtain ⟨e1, es1, hrest54⟩ := range_more hxs46 hi47 hp52
      subst hrest54
      rw [M.strings_Join_loop2.eq_2] at hm
      refine W.skip <| Aq <| W.seq <| W.block <| Aw <| Ao rfl (.idxPre hxs46 hi47 U26 Z9 (.t rfl) (.t rfl)) <| Ao rfl (.load ty9 (.t rfl)) <| Ag rfl rfl <| Ar <| WL.mv rfl rfl ?_
      obtain ⟨b3, hv55, hm⟩ := Bs hm
      refine WL.weakR (res' := [(8, (Bx 2 true 89 (bldA k2 b2 b) b)), (1000008, Dec.Own (tI .u8) 5 k2 b2.length)]) ⟨rfl, rfl, ⟨rfl, rfl, trivial⟩⟩ <| WL.opR rfl (OpR.call (us := [8, 1000008]) (A := fun kx : Tok => Asn.any) C54 (FSpecR.keys (rin' := [(8, (Bx 2 true 89 (bldA k2 b2 b) b)), (1000008, Dec.Own (tI .u8) 5 k2 b2.length)]) (out' := fun kx : Tok => [(8, (Bx 2 true 89 (bldA kx b3 b) b)), (1000008, Dec.Own (tI .u8) 5 kx b3.length)]) (strings_Builder_WriteString_spec _ _ _ _ _ hv55) rfl (fun _ => rfl)) rfl ⟨(.t rfl), (.t rfl), trivial⟩) fun k3 => WL.nr1 <| WL.mv rfl rfl ?_
      obtain ⟨b4, hv56, hm⟩ := Bs hm
      exact WL.weakR (res' := [(8, (Bx 2 true 89 (bldA k3 b3 b) b)), (1000008, Dec.Own (tI .u8) 5 k3 b3.length)]) ⟨rfl, rfl, ⟨rfl, rfl, trivial⟩⟩ <| WL.opR rfl (OpR.call (us := [8, 1000008]) (A := fun kx : Tok => Asn.any) C54 (FSpecR.keys (rin' := [(8, (Bx 2 true 89 (bldA k3 b3 b) b)), (1000008, Dec.Own (tI .u8) 5 k3 b3.length)]) (out' := fun kx : Tok => [(8, (Bx 2 true 89 (bldA kx b4 b) b)), (1000008, Dec.Own (tI .u8) 5 kx b4.length)]) (strings_Builder_WriteString_spec _ _ _ _ _ hv56) rfl (fun _ => rfl)) rfl ⟨(.t rfl), (.t rfl), trivial⟩) fun k4 => WL.nil <| WN.block <| Aq <| W.region <| Ao rfl (.addI (.t rfl) .i64 (range_inR hi47 hp52 hlen48)) <| Am rfl rfl <| WL.nil <| WN.again es1.length (i1 + 1, pre1 ++ [e1], es1, (b4, k4)) (range_lt hn49) ⟨rfl, range_step hxs46, range_idx hi47, hm⟩ ⟨.q rfl, .q rfl, .q rfl, .q rfl, .q rfl, trivial⟩ ⟨rfl, rfl, ⟨rfl, rfl, trivial⟩⟩
     ·have hrest54 := range_end hxs46 hi47 (of_decide_eq_false hc51)
      subst hrest54
      rw [M.strings_Join_loop2.eq_1] at hm
      refine W.exit rfl ?_
      have hr57 := Si hm
      clear hm
      subst hr57
      have hm := hk45
      try dsimp only at hm
      refine Aq <| Aw <| WL.weakR (res' := [(8, (Bx 2 true 89 (bldA k2 b2 b) b)), (1000008, Dec.Own (tI .u8) 5 k2 b2.length)]) ⟨rfl, rfl, ⟨rfl, rfl, trivial⟩⟩ <| WL.opR rfl (OpR.call (us := [8, 1000008]) (A := fun kx : Unit => tS.is b2) C55 (FSpecR.keys (rin' := [(8, (Bx 2 true 89 (bldA k2 b2 b) b)), (1000008, Dec.Own (tI .u8) 5 k2 b2.length)]) (out' := fun kx : Unit => []) (strings_Builder_String_spec _ _ _) rfl (fun _ => rfl)) rfl ⟨(.t rfl), trivial⟩) fun _ => Ag rfl rfl <| WL.ns ?_
      have hr := Si hm
      clear hm
      subst hr
      exact W.ret1 () rfl (.t rfl) trivial
   ·have hm := hs7
    clear hs7
    refine Aw <| Am rfl rfl <| Ao rfl (.lenS U9 (.t rfl)) <| Ao rfl (.gtI (.t rfl) .i64) <| An <| W.cD hm (.t rfl) (fun hp10 hm => ?_) (fun hp10 hm => ?_)
    ·obtain ⟨s11, hs12, hk13⟩ := Bs hm
     clear hm
     refine W.join (fun s : Unit => s = s11) (fun s => [(0, ((tL tS).is elems)), (1, (tS.is sep)), (5, (I6.is (0 : Int)))]) (fun s => []) ?_ ?_
     ·rintro _ hj21
      try dsimp only at hj21
      subst hj21
      have hm := hk13
      clear hk13
      try dsimp only at hm
      change W _ _ _ _ _ _ _ [(0, ((tL tS).is elems)), (1, (tS.is sep)), (5, (I6.is (0 : Int)))] []
      refine W.region <| Am rfl rfl <| Am rfl rfl <| Ao rfl (.lenS U9 (.t rfl)) <| Am rfl rfl <| Ao rfl (.lenL U26 (.t rfl)) ?_
      obtain ⟨v3, hv18, hm⟩ := Bs hm
      refine Ao rfl (.subC hv18 (.t rfl) .i64) ?_
      obtain ⟨v4, hv19, hm⟩ := Bs hm
      refine Ao rfl (.mulC hv19 (.t rfl) (.t rfl)) ?_
      obtain ⟨v5, hv20, hm⟩ := Bs hm
      exact Ao rfl (.addC hv20 (.t rfl) (.t rfl)) <| Ag rfl rfl <| WL.nil <| WN.meet v5 (Si hm) ⟨.q rfl, .q rfl, .q rfl, trivial⟩ trivial
     ·have hm := hs12
      clear hs12
      refine Aw <| Am rfl rfl <| Ao rfl (.lenS U9 (.t rfl)) <| Am rfl rfl <| Ao rfl (.lenL U26 (.t rfl)) ?_
      obtain ⟨v1, hv14, hm⟩ := Bs hm
      refine Ao rfl (.subC hv14 (.t rfl) .i64) ?_
      obtain ⟨v2, hv15, hm⟩ := Bs hm
      refine Ao rfl (.quoC hv15 .i64 (.t rfl)) <| Ao rfl (.geI (.t rfl) (.t rfl)) <| An <| W.cD hm (.t rfl) (fun hp17 hm => ?_) (fun hp17 hm => ?_)
      ·cases hm
      ·exact W.skip <| WN.meet () (Si hm) ⟨.q rfl, .q rfl, .q rfl, trivial⟩ trivial
    ·exact W.skip <| WN.meet (0 : Int) (Si hm) ⟨.q rfl, .q rfl, .q rfl, trivial⟩ trivial
theorem journal_cut_spec (n : Nat) (text : Str) (r : List Str) (hm : M.journal_cut n text = some r) : FSpec Tryz.prog 33 [(tS.is text)] ((tL tS).is r) := by
 unfold M.journal_cut at hm
 refine FSpec.of Tryz.func33 rfl rfl rfl fun g0 => Aw <| Ao rfl (.assign (.nil (t := tS))) <| An <| W.seq <| Aw <| Am rfl rfl <| Ao rfl (.lenS U9 (.t rfl)) <| Ao rfl (.gtI (.t rfl) .i64) <| An <| W.cD hm (.t rfl) (fun hp2 hm => ?_) (fun hp2 hm => ?_)
 ·refine Aw <| Ao rfl (.assign (.nil (t := tS))) <| WL.ns ?_
  have hr := Si hm
  clear hm
  subst hr
  exact W.ret1 () rfl (.t rfl) trivial
 ·refine W.skip <| Aq <| Aw <| WL.addNil (t := tS) (E := 9) 3 <| Ao rfl (.assign (Opd.nilO (t := tS))) <| An <| W.seq <| W.block ?_
  obtain ⟨s3, hs4, hk5⟩ := Bs hm
  clear hm
  refine W.loop (fun m (s : (Str × (List Str)) × Tok) => M.journal_cut_loop1 m s.1.1 s.1.2 = some s3) (fun s => [(0, (tS.is s.1.1)), (3, (tO tS s.2 s.1.2))]) (fun s => [(3, Dec.Own tS 9 s.2 s.1.2.length)]) _ ((text, ([] : List Str)), (none : Tok)) hs4 ⟨.q rfl, .q rfl, trivial⟩ ⟨rfl, rfl, trivial⟩ ?_
  rintro n6 ⟨⟨text1, out⟩, k⟩ hm
  try dsimp only at hm
  change W _ _ _ _ _ _ _ [(0, (tS.is text1)), (3, (tO tS k out))] [(3, Dec.Own tS 9 k out.length)]
  cases n6 with
  | zero => rw [M.journal_cut_loop1.eq_1] at hm; cases hm
  | succ n6 =>
   rw [M.journal_cut_loop1.eq_2] at hm
   refine W.seq <| Aw <| Am rfl rfl <| Ao rfl (.lenS U9 (.t rfl)) <| Ao rfl (.gtI (.t rfl) .i64) <| An <| W.cD hm (.t rfl) (fun hp8 hm => ?_) (fun hp8 hm => ?_)
   ·refine W.skip <| Aq <| W.block ?_
    obtain ⟨v, hv9, hm⟩ := Bs hm
    obtain ⟨out1, hv10, hm⟩ := Bs hm
    obtain ⟨v1, hv11, hm⟩ := Bs hm
    exact W.drawR [.c (tO tS k out), .c (tS.is text1), .c (tS.is v), .c ((tL tS).is [v]), .f (fun k1 => (tO tS k1 out1)), .c (tS.is text1), .c (tS.is v1), .f (fun k1 => (tO tS k1 out1)), .c (tS.is v1)] [([], [3]), ([], [0]), ([1], []), ([2], []), ([0, 3], []), ([], [0]), ([5], []), ([4], []), ([6], [])] 4 [3] (fun k : Tok => tO tS k out1) (fun k : Tok => [(3, Dec.Own tS 9 k out1.length)]) (none : Tok) Mx rfl rfl rfl (fun k1 => ⟨.inr (Op1.move (.t rfl)), .inr (Op1.move (.t rfl)), .inr (Op1.sslcHi hv9 U9 (.t rfl) .i64), .inr (Op1.buildSlice (n := 1) (ys := [(0, v)]) (z := ([] : Str)) (xs := [v]) U26 el9 ze9 ⟨rfl, (.t rfl), trivial⟩ (by simp) (by decide) rfl), .inl rfl, .inr (Op1.move (.t rfl)), .inr (Op1.sslcLo hv11 U9 (.t rfl) .i64), .inr (Op1.assign (.t rfl)), .inr (Op1.assign (.t rfl)), trivial⟩) (.inl ⟨by decide, _, _, rfl, rfl, rfl, rfl, OpR.appC (key := 3) hv10 U26 el9 (.t rfl) (.t rfl) rfl⟩) fun k1 => WN.block <| WN.again n6 ((v1, out1), k1) (Nat.lt_succ_self n6) hm ⟨.q rfl, .q rfl, trivial⟩ ⟨rfl, rfl, trivial⟩
   ·refine W.exit rfl ?_
    have hr12 := Si hm
    clear hm
    subst hr12
    have hm := hk5
    try dsimp only at hm
    refine Aq <| Aw <| Am rfl rfl <| Am rfl rfl <| Ao rfl (.buildSlice (n := 1) (ys := [(0, text1)]) (z := ([] : Str)) (xs := [text1]) U26 el9 ze9 ⟨rfl, (.t rfl), trivial⟩ (by simp) (by decide) rfl) ?_
    obtain ⟨out2, hv13, hm⟩ := Bs hm
    refine WL.opR rfl (OpR.appC (key := 3) hv13 U26 el9 (.t rfl) (.t rfl) rfl) fun k2 => Ag rfl rfl <| WL.ns ?_
    have hr := Si hm
    clear hm
    subst hr
    exact W.ret1 () rfl (Opd.own (.t rfl)) trivial
theorem slices_Equal_string_string_spec (n : Nat) (s1_ : List Str) (s2_ : List Str) (r : Bool) (hm : M.slices_Equal_string_string n s1_ s2_ = some r) : FSpec Tryz.prog 44 [((tL tS).is s1_), ((tL tS).is s2_)] (tB.is r) := by
 unfold M.slices_Equal_string_string at hm
 refine FSpec.of Tryz.func44 rfl rfl rfl fun g0 => Aw <| Ao rfl (.assign .bool) <| An <| W.seq <| Aw <| Am rfl rfl <| Ao rfl (.lenL U26 (.t rfl)) <| Am rfl rfl <| Ao rfl (.lenL U26 (.t rfl)) <| Ao rfl (.neI (.t rfl) (.t rfl)) <| An <| W.cD hm (.t rfl) (fun hp2 hm => ?_) (fun hp2 hm => ?_)
 ·refine Aw <| Ao rfl (.assign .bool) <| WL.ns ?_
  have hr := Si hm
  clear hm
  subst hr
  exact W.ret1 () rfl (.t rfl) trivial
 ·refine W.skip <| Aq <| W.seq <| Aw <| Am rfl rfl <| Ao rfl (.lenL U26 (.t rfl)) <| Ao rfl (.move .i64) <| An <| W.block ?_
  obtain ⟨s3, hs4, hk5⟩ := Bs hm
  clear hm
  refine W.loop (fun m (s : Int) => M.slices_Equal_string_string_loop1 s1_ s2_ m s = some s3) (fun s => [(13, (I6.is s)), (0, ((tL tS).is s1_)), (1, ((tL tS).is s2_)), (12, (I6.is (s1_.length : Int)))]) (fun s => []) _ (0 : Int) hs4 ⟨.q rfl, .q rfl, .q rfl, .q rfl, trivial⟩ trivial ?_
  rintro n6 v hm
  try dsimp only at hm
  change W _ _ _ _ _ _ _ [(13, (I6.is v)), (0, ((tL tS).is s1_)), (1, ((tL tS).is s2_)), (12, (I6.is (s1_.length : Int)))] []
  cases n6 with
  | zero => rw [M.slices_Equal_string_string_loop1.eq_1] at hm; cases hm
  | succ n6 =>
   rw [M.slices_Equal_string_string_loop1.eq_2] at hm
   refine Aw <| Ao rfl (.ltI (.t rfl) (.t rfl)) <| An <| W.seq <| W.cD hm (.t rfl) (fun hp8 hm => ?_) (fun hp8 hm => ?_)
   ·refine W.skip <| Aq <| W.seq <| W.block <| Aw <| Am rfl rfl <| Ag rfl rfl <| An <| W.seq ?_
    obtain ⟨v1, hv9, hm⟩ := Bs hm
    obtain ⟨v2, hv10, hm⟩ := Bs hm
    refine W.draw [.c _, .c _, .c _, .c _, .c _, .c _, .c _, .c _, .c _] [([], [0]), ([], [5]), ([0, 1], []), ([2], []), ([], [1]), ([], [5]), ([4, 5], []), ([6], []), ([3, 7], [])] Mx rfl rfl rfl rfl ⟨Dn (.move (.t rfl)), Dn (.move (.t rfl)), Dn (.idx hv9 U26 Z9 (.t rfl) (.t rfl)), Dn (.load ty9 (.t rfl)), Dn (.move (.t rfl)), Dn (.move (.t rfl)), Dn (.idx hv10 U26 Z9 (.t rfl) (.t rfl)), Dn (.load ty9 (.t rfl)), Dn (.neS (.t rfl) (.t rfl)), trivial⟩ <| Aq <| W.cB hm (.t rfl) (fun hp12 hm => ?_) (fun hp12 hm => ?_)
    ·refine Aw <| Ao rfl (.assign .bool) <| WL.ns ?_
     have hr13 := Si hm
     clear hm
     subst hr13
     have hm := hk5
     try dsimp only at hm
     have hr := Si hm
     clear hm
     subst hr
     exact W.ret1 () rfl (.t rfl) trivial
    ·exact W.skip <| WN.block <| Aq <| W.region <| WL.lenL (s := 0) (.t rfl) fun hl14 => Ao rfl (.addI1 (.t rfl) .i64 hp8 hl14) <| Am rfl rfl <| WL.nil <| WN.again n6 (v + 1) (Nat.lt_succ_self n6) hm ⟨.q rfl, .q rfl, .q rfl, .q rfl, trivial⟩ trivial
   ·refine W.exit rfl ?_
    have hr15 := Si hm
    clear hm
    subst hr15
    have hm := hk5
    try dsimp only at hm
    refine Aq <| Aw <| Ao rfl (.assign .bool) <| WL.ns ?_
    have hr := Si hm
    clear hm
    subst hr
    exact W.ret1 () rfl (.t rfl) trivial
theorem journal_load_spec (n : Nat) (s0_ : pagestore_Store) (b : Nat) (k : Tok) (r : (List Str) × journal_mark × Int) (hm : M.journal_load n s0_ = some r) : FSpecR Tryz.prog 32 [(Bp b 0)] [(0, (Bx 5 true 56 ((tpagestore_Store_k0 k).is s0_) b)), (1000000, Dec.Own tS 9 k s0_.pages_.length), (700000, GlE 0), (700001, GlI 1), (700002, GlI 2), (700003, GlT Tryz.prog "internal/strconv.uint64pow10" .u64 Lib.pow10Tab), (700007, Gl (tA 64 (tI .u8)) 7 gv7)] (fun kx : Tok => (Asn.tuple3 (tO tS kx r.1) (tjournal_mark.is r.2.1) (I6.is r.2.2))) (fun kx : Tok => [(0, (Bx 5 true 56 ((tpagestore_Store_k0 k).is s0_) b)), (1000000, Dec.Own tS 9 k s0_.pages_.length), (700000, GlE 0), (700001, GlI 1), (700002, GlI 2), (700003, GlT Tryz.prog "internal/strconv.uint64pow10" .u64 Lib.pow10Tab), (700007, Gl (tA 64 (tI .u8)) 7 gv7), (88888, Dec.Own tS 9 kx r.1.length)]) := by
 unfold M.journal_load at hm
 refine FSpecR.of Tryz.func32 rfl rfl rfl fun g0 => Aw <| WL.addNil (t := tS) (E := 9) 2 <| Ao rfl (.assign (Opd.nilO (t := tS))) <| WL.opR rfl (OpR.alloc 3 ze58) fun b1 => Ao rfl (.assign .i64) <| Ar <| Ao rfl (.build (s := tjournal_mark) (x := (⟨(-1 : Int), ([] : Str)⟩ : journal_mark)) zjournal_mark_f rfl Tryz.underlying58 (zjournal_mark_sz _ Tryz.underlying58) ze58 ⟨_, I6, (-1 : Int), _, _, rfl, Z3, .i64, sjournal_mark_0, rfl⟩) <| WL.opR rfl (OpR.alloc 5 ze58) fun b2 => WL.opU (OpR.storeB (b := b2) 5 Z58 (Cellable.is tjournal_mark (⟨(-1 : Int), ([] : Str)⟩ : journal_mark)) rfl (.t rfl) (.t rfl)) fun _ => An <| W.seq <| Aw <| Am rfl rfl <| Ao rfl (.eqNilP (p := some ⟨b, 0, none⟩) U29 (.t rfl)) <| WL.ns ?_
 refine W.condF (.t rfl) <| W.skip <| Aq <| W.seq <| Aw <| WL.mv rfl rfl ?_
 obtain ⟨failed, hv1, hm⟩ := Bs hm
 refine WL.weakR (res' := [(0, (Bx 5 true 56 ((tpagestore_Store_k0 k).is s0_) b)), (1000000, Dec.Own tS 9 k s0_.pages_.length), (2, Dec.Own tS 9 (none : Tok) ([] : List Str).length), (700000, GlE 0), (700001, GlI 1), (700002, GlI 2), (700003, GlT Tryz.prog "internal/strconv.uint64pow10" .u64 Lib.pow10Tab), (700007, Gl (tA 64 (tI .u8)) 7 gv7), (3, (Bx 2 true 58 (tjournal_mark.is zjournal_mark) b1)), (5, (Bx 2 true 58 (tjournal_mark.is (⟨(-1 : Int), ([] : Str)⟩ : journal_mark)) b2))]) ⟨rfl, rfl, ⟨rfl, rfl, ⟨rfl, rfl, ⟨rfl, rfl, ⟨rfl, rfl, ⟨rfl, rfl, ⟨rfl, rfl, ⟨rfl, rfl, ⟨rfl, rfl, ⟨rfl, rfl, trivial⟩⟩⟩⟩⟩⟩⟩⟩⟩⟩ <| WL.opR rfl (OpR.call (us := [0, 1000000]) (A := fun kx : Unit => (tB.is failed)) C21 (FSpecR.keys (rin' := [(0, (Bx 5 true 56 ((tpagestore_Store_k0 k).is s0_) b)), (1000000, Dec.Own tS 9 k s0_.pages_.length)]) (out' := fun kx : Unit => [(0, (Bx 5 true 56 ((tpagestore_Store_k0 k).is s0_) b)), (1000000, Dec.Own tS 9 k s0_.pages_.length)]) (pagestore_Store_Failed_spec _ _ _ _ hv1) rfl (fun _ => rfl)) rfl ⟨(.t rfl), trivial⟩) fun _ => An <| W.cB hm (.t rfl) (fun hp3 hm => ?_) (fun hp3 hm => ?_)
 ·refine W.seq <| W.weakR (res' := [(1000000, Dec.Own tS 9 k s0_.pages_.length), (2, Dec.Own tS 9 (none : Tok) ([] : List Str).length), (0, (Bx 5 true 56 ((tpagestore_Store_k0 k).is s0_) b)), (700000, GlE 0), (700001, GlI 1), (700002, GlI 2), (700003, GlT Tryz.prog "internal/strconv.uint64pow10" .u64 Lib.pow10Tab), (700007, Gl (tA 64 (tI .u8)) 7 gv7), (3, (Bx 2 true 58 (tjournal_mark.is zjournal_mark) b1)), (5, (Bx 2 true 58 (tjournal_mark.is (⟨(-1 : Int), ([] : Str)⟩ : journal_mark)) b2))]) ⟨rfl, rfl, ⟨rfl, rfl, ⟨rfl, rfl, ⟨rfl, rfl, ⟨rfl, rfl, ⟨rfl, rfl, ⟨rfl, rfl, ⟨rfl, rfl, ⟨rfl, rfl, ⟨rfl, rfl, trivial⟩⟩⟩⟩⟩⟩⟩⟩⟩⟩ <| W.drawM [.c (tjournal_mark.is (⟨(-1 : Int), ([] : Str)⟩ : journal_mark)), .c (tO tS (none : Tok) ([] : List Str)), .c Asn.any, .c (I6.is (16 : Int))] [([], [5]), ([], []), ([0], [3]), ([], [])] [2] [[], [], [], []] (fun m cv => match m with | 0 => [(1000000, Dec.Own tS 9 k s0_.pages_.length), (2, Dec.Own tS 9 (none : Tok) ([] : List Str).length), (0, (Bx 5 true 56 ((tpagestore_Store_k0 k).is s0_) b)), (700000, GlE 0), (700001, GlI 1), (700002, GlI 2), (700003, GlT Tryz.prog "internal/strconv.uint64pow10" .u64 Lib.pow10Tab), (700007, Gl (tA 64 (tI .u8)) 7 gv7), (3, (Bx 2 true 58 (tjournal_mark.is zjournal_mark) b1)), (5, (Bx 2 true 58 (tjournal_mark.is (⟨(-1 : Int), ([] : Str)⟩ : journal_mark)) b2))] | _ => [(3, (Bx 2 true 58 (tjournal_mark.is (⟨(-1 : Int), ([] : Str)⟩ : journal_mark)) b1)), (1000000, Dec.Own tS 9 k s0_.pages_.length), (2, Dec.Own tS 9 (none : Tok) ([] : List Str).length), (0, (Bx 5 true 56 ((tpagestore_Store_k0 k).is s0_) b)), (700000, GlE 0), (700001, GlI 1), (700002, GlI 2), (700003, GlT Tryz.prog "internal/strconv.uint64pow10" .u64 Lib.pow10Tab), (700007, Gl (tA 64 (tI .u8)) 7 gv7), (5, (Bx 2 true 58 (tjournal_mark.is (⟨(-1 : Int), ([] : Str)⟩ : journal_mark)) b2))]) (fun _ => none) Mx rfl rfl rfl rfl rfl ⟨fun _ _ _ _ => rfl, ⟨fun _ _ _ _ => rfl, ⟨fun _ _ _ _ => rfl, ⟨fun _ _ _ _ => rfl, trivial⟩⟩⟩⟩ rfl ⟨.inr ⟨fun cv => [(5, (Bx 2 true 58 (tjournal_mark.is (⟨(-1 : Int), ([] : Str)⟩ : journal_mark)) b2))], (AllUpTo.at ⟨(fun _ _ => ⟨rfl, rfl, trivial⟩), (fun hw => absurd hw (by decide))⟩), fun cv => Op1.loadB 5 Y58 Z58 rfl (.t rfl)⟩, ⟨mo fun cv => Op1.assign (Opd.nilO (t := tS)), ⟨.inl rfl, ⟨mo fun cv => Op1.assign .i64, trivial⟩⟩⟩⟩ ⟨⟨_, _, _, [3], (fun cv => [(3, (Bx 2 true 58 (tjournal_mark.is (⟨(-1 : Int), ([] : Str)⟩ : journal_mark)) b1))]), rfl, rfl, rfl, rfl, fun _ => rfl, fun _ _ => rfl, fun cv => OpR.viaU (OpR.storeB (b := b1) 3 Z58 (Cellable.is tjournal_mark (⟨(-1 : Int), ([] : Str)⟩ : journal_mark)) rfl (.t rfl) (.t rfl))⟩, trivial⟩ fun cv => WN.seq ?_
  have hr := Si hm
  clear hm
  subst hr
  exact W.addNil (t := tS) (E := 9) 88888 <| W.retQ3 (none : Tok) rfl rfl (ResAt.tmp (.t rfl)) (ResAt.cell 3 Y58 Z58 rfl (.t rfl)) (ResAt.tmp (.t rfl)) ⟨rfl, rfl, ⟨rfl, rfl, ⟨rfl, rfl, ⟨rfl, rfl, ⟨rfl, rfl, ⟨rfl, rfl, ⟨rfl, rfl, ⟨rfl, rfl, trivial⟩⟩⟩⟩⟩⟩⟩⟩
 ·refine W.skip <| Aq <| Aw <| WL.mv rfl rfl ?_
  obtain ⟨way, hv4, hm⟩ := Bs hm
  refine WL.weakR (res' := [(0, (Bx 5 true 56 ((tpagestore_Store_k0 k).is s0_) b)), (1000000, Dec.Own tS 9 k s0_.pages_.length), (700000, GlE 0), (700001, GlI 1), (700002, GlI 2), (700003, GlT Tryz.prog "internal/strconv.uint64pow10" .u64 Lib.pow10Tab), (2, Dec.Own tS 9 (none : Tok) ([] : List Str).length), (700007, Gl (tA 64 (tI .u8)) 7 gv7), (3, (Bx 2 true 58 (tjournal_mark.is zjournal_mark) b1)), (5, (Bx 2 true 58 (tjournal_mark.is (⟨(-1 : Int), ([] : Str)⟩ : journal_mark)) b2))]) ⟨rfl, rfl, ⟨rfl, rfl, ⟨rfl, rfl, ⟨rfl, rfl, ⟨rfl, rfl, ⟨rfl, rfl, ⟨rfl, rfl, ⟨rfl, rfl, ⟨rfl, rfl, ⟨rfl, rfl, trivial⟩⟩⟩⟩⟩⟩⟩⟩⟩⟩ <| WL.opR rfl (OpR.call (us := [0, 1000000, 700000, 700001, 700002, 700003]) (A := fun kx : Unit => (Asn.tuple2 ((tL tjournal_read).is way.1) (tB.is way.2))) C42 (FSpecR.keys (rin' := [(0, (Bx 5 true 56 ((tpagestore_Store_k0 k).is s0_) b)), (1000000, Dec.Own tS 9 k s0_.pages_.length), (700000, GlE 0), (700001, GlI 1), (700002, GlI 2), (700003, GlT Tryz.prog "internal/strconv.uint64pow10" .u64 Lib.pow10Tab)]) (out' := fun kx : Unit => [(0, (Bx 5 true 56 ((tpagestore_Store_k0 k).is s0_) b)), (1000000, Dec.Own tS 9 k s0_.pages_.length), (700000, GlE 0), (700001, GlI 1), (700002, GlI 2), (700003, GlT Tryz.prog "internal/strconv.uint64pow10" .u64 Lib.pow10Tab)]) (journal_way_spec _ _ _ _ _ hv4) rfl (fun _ => rfl)) rfl ⟨(.t rfl), trivial⟩) fun _ => Am rfl rfl <| Ao rfl (.extract0 (.t rfl)) <| Ao rfl (.extract1 (.t rfl)) <| Ag rfl rfl <| Ag rfl rfl <| An <| W.seq <| Aw <| Am rfl rfl <| Ao rfl (.notB (.t rfl)) <| An <| W.cR hm (.t rfl) (fun hp6 hm => ?_) (fun hp6 hm => ?_)
  ·refine W.seq <| W.weakR (res' := [(1000000, Dec.Own tS 9 k s0_.pages_.length), (2, Dec.Own tS 9 (none : Tok) ([] : List Str).length), (0, (Bx 5 true 56 ((tpagestore_Store_k0 k).is s0_) b)), (700000, GlE 0), (700001, GlI 1), (700002, GlI 2), (700003, GlT Tryz.prog "internal/strconv.uint64pow10" .u64 Lib.pow10Tab), (700007, Gl (tA 64 (tI .u8)) 7 gv7), (3, (Bx 2 true 58 (tjournal_mark.is zjournal_mark) b1)), (5, (Bx 2 true 58 (tjournal_mark.is (⟨(-1 : Int), ([] : Str)⟩ : journal_mark)) b2))]) ⟨rfl, rfl, ⟨rfl, rfl, ⟨rfl, rfl, ⟨rfl, rfl, ⟨rfl, rfl, ⟨rfl, rfl, ⟨rfl, rfl, ⟨rfl, rfl, ⟨rfl, rfl, ⟨rfl, rfl, trivial⟩⟩⟩⟩⟩⟩⟩⟩⟩⟩ <| W.drawM [.c (tjournal_mark.is (⟨(-1 : Int), ([] : Str)⟩ : journal_mark)), .c (tO tS (none : Tok) ([] : List Str)), .c Asn.any, .c (I6.is (17 : Int))] [([], [5]), ([], []), ([0], [3]), ([], [])] [2] [[], [], [], []] (fun m cv1 => match m with | 0 => [(1000000, Dec.Own tS 9 k s0_.pages_.length), (2, Dec.Own tS 9 (none : Tok) ([] : List Str).length), (0, (Bx 5 true 56 ((tpagestore_Store_k0 k).is s0_) b)), (700000, GlE 0), (700001, GlI 1), (700002, GlI 2), (700003, GlT Tryz.prog "internal/strconv.uint64pow10" .u64 Lib.pow10Tab), (700007, Gl (tA 64 (tI .u8)) 7 gv7), (3, (Bx 2 true 58 (tjournal_mark.is zjournal_mark) b1)), (5, (Bx 2 true 58 (tjournal_mark.is (⟨(-1 : Int), ([] : Str)⟩ : journal_mark)) b2))] | _ => [(3, (Bx 2 true 58 (tjournal_mark.is (⟨(-1 : Int), ([] : Str)⟩ : journal_mark)) b1)), (1000000, Dec.Own tS 9 k s0_.pages_.length), (2, Dec.Own tS 9 (none : Tok) ([] : List Str).length), (0, (Bx 5 true 56 ((tpagestore_Store_k0 k).is s0_) b)), (700000, GlE 0), (700001, GlI 1), (700002, GlI 2), (700003, GlT Tryz.prog "internal/strconv.uint64pow10" .u64 Lib.pow10Tab), (700007, Gl (tA 64 (tI .u8)) 7 gv7), (5, (Bx 2 true 58 (tjournal_mark.is (⟨(-1 : Int), ([] : Str)⟩ : journal_mark)) b2))]) (fun _ => none) Mx rfl rfl rfl rfl rfl ⟨fun _ _ _ _ => rfl, ⟨fun _ _ _ _ => rfl, ⟨fun _ _ _ _ => rfl, ⟨fun _ _ _ _ => rfl, trivial⟩⟩⟩⟩ rfl ⟨.inr ⟨fun cv1 => [(5, (Bx 2 true 58 (tjournal_mark.is (⟨(-1 : Int), ([] : Str)⟩ : journal_mark)) b2))], (AllUpTo.at ⟨(fun _ _ => ⟨rfl, rfl, trivial⟩), (fun hw => absurd hw (by decide))⟩), fun cv1 => Op1.loadB 5 Y58 Z58 rfl (.t rfl)⟩, ⟨mo fun cv1 => Op1.assign (Opd.nilO (t := tS)), ⟨.inl rfl, ⟨mo fun cv1 => Op1.assign .i64, trivial⟩⟩⟩⟩ ⟨⟨_, _, _, [3], (fun cv1 => [(3, (Bx 2 true 58 (tjournal_mark.is (⟨(-1 : Int), ([] : Str)⟩ : journal_mark)) b1))]), rfl, rfl, rfl, rfl, fun _ => rfl, fun _ _ => rfl, fun cv1 => OpR.viaU (OpR.storeB (b := b1) 3 Z58 (Cellable.is tjournal_mark (⟨(-1 : Int), ([] : Str)⟩ : journal_mark)) rfl (.t rfl) (.t rfl))⟩, trivial⟩ fun cv1 => WN.seq ?_
   have hr := Si hm
   clear hm
   subst hr
   exact W.addNil (t := tS) (E := 9) 88888 <| W.retQ3 (none : Tok) rfl rfl (ResAt.tmp (.t rfl)) (ResAt.cell 3 Y58 Z58 rfl (.t rfl)) (ResAt.tmp (.t rfl)) ⟨rfl, rfl, ⟨rfl, rfl, ⟨rfl, rfl, ⟨rfl, rfl, ⟨rfl, rfl, ⟨rfl, rfl, ⟨rfl, rfl, ⟨rfl, rfl, trivial⟩⟩⟩⟩⟩⟩⟩⟩
  ·refine W.skip <| Aq <| Aw <| WL.addNil (t := tS) (E := 9) 8 <| Ao rfl (.assign (Opd.nilO (t := tS))) <| WL.addNil (t := tS) (E := 9) 9 <| Ao rfl (.assign (Opd.nilO (t := tS))) <| An <| W.seq <| Aw <| Am rfl rfl <| Ao rfl (.lenL U77 (.t rfl)) <| Ao rfl (.move .i64) <| An <| W.block ?_
   obtain ⟨s7, hs8, hk9⟩ := Bs hm
   clear hm
   refine W.loop (fun m (s : Int × List journal_read × List journal_read × (((List Str) × (List Str) × journal_mark × journal_mark) × (Tok × Tok))) => m = s.2.2.1.length ∧ way.1 = s.2.1 ++ s.2.2.1 ∧ s.1 = (s.2.1.length : Int) ∧ M.journal_load_loop1 n s.2.2.1 s.2.2.2.1.1 s.2.2.2.1.2.1 s.2.2.2.1.2.2.1 s.2.2.2.1.2.2.2 = some s7) (fun s => [(32, (I6.is s.1)), (8, (tO tS s.2.2.2.2.1 s.2.2.2.1.1)), (9, (tO tS s.2.2.2.2.2 s.2.2.2.1.2.1)), (3, (Bp b1 0)), (5, (Bp b2 0)), (30, ((tL tjournal_read).is way.1)), (31, (I6.is (way.1.length : Int)))]) (fun s => [(8, Dec.Own tS 9 s.2.2.2.2.1 s.2.2.2.1.1.length), (9, Dec.Own tS 9 s.2.2.2.2.2 s.2.2.2.1.2.1.length), (1000000, Dec.Own tS 9 k s0_.pages_.length), (3, (Bx 2 true 58 (tjournal_mark.is s.2.2.2.1.2.2.1) b1)), (5, (Bx 2 true 58 (tjournal_mark.is s.2.2.2.1.2.2.2) b2)), (0, (Bx 5 true 56 ((tpagestore_Store_k0 k).is s0_) b)), (700000, GlE 0), (700001, GlI 1), (700002, GlI 2), (700003, GlT Tryz.prog "internal/strconv.uint64pow10" .u64 Lib.pow10Tab), (700007, Gl (tA 64 (tI .u8)) 7 gv7)]) way.1.length ((0 : Int), [], way.1, ((([] : List Str), ([] : List Str), zjournal_mark, (⟨(-1 : Int), ([] : Str)⟩ : journal_mark)), ((none : Tok), (none : Tok)))) ⟨rfl, rfl, rfl, hs8⟩ ⟨.q rfl, .q rfl, .q rfl, .q rfl, .q rfl, .q rfl, .q rfl, trivial⟩ ⟨rfl, rfl, ⟨rfl, rfl, ⟨rfl, rfl, ⟨rfl, rfl, ⟨rfl, rfl, ⟨rfl, rfl, ⟨rfl, rfl, ⟨rfl, rfl, ⟨rfl, rfl, ⟨rfl, rfl, ⟨rfl, rfl, trivial⟩⟩⟩⟩⟩⟩⟩⟩⟩⟩⟩ ?_
   rintro m ⟨i, pre, rest1, ⟨⟨texts, parts, v, m0_⟩, ⟨k1, k2⟩⟩⟩ ⟨hn13, hxs10, hi11, hm⟩
   try dsimp only at hn13 hxs10 hi11 hm
   change W _ _ _ _ _ _ _ [(32, (I6.is i)), (8, (tO tS k1 texts)), (9, (tO tS k2 parts)), (3, (Bp b1 0)), (5, (Bp b2 0)), (30, ((tL tjournal_read).is way.1)), (31, (I6.is (way.1.length : Int)))] [(8, Dec.Own tS 9 k1 texts.length), (9, Dec.Own tS 9 k2 parts.length), (1000000, Dec.Own tS 9 k s0_.pages_.length), (3, (Bx 2 true 58 (tjournal_mark.is v) b1)), (5, (Bx 2 true 58 (tjournal_mark.is m0_) b2)), (0, (Bx 5 true 56 ((tpagestore_Store_k0 k).is s0_) b)), (700000, GlE 0), (700001, GlI 1), (700002, GlI 2), (700003, GlT Tryz.prog "internal/strconv.uint64pow10" .u64 Lib.pow10Tab), (700007, Gl (tA 64 (tI .u8)) 7 gv7)]
   refine W.lenL (s := 30) (.t rfl) fun hlen12 => Aw <| Ao rfl (.ltI (.t rfl) (.t rfl)) <| An <| W.seq <| W.cond (.t rfl) (fun hc15 => ?_) (fun hc15 => ?_)
   ·have hp16 := of_decide_eq_true hc15
    obtain ⟨e, es, hrest18⟩ := range_more hxs10 hi11 hp16
    subst hrest18
    rw [M.journal_load_loop1.eq_2] at hm
    refine W.skip <| Aq <| W.seq <| W.block <| Aw <| Ao rfl (.idxPre hxs10 hi11 U77 Z81 (.t rfl) (.t rfl)) <| Ao rfl (.load ty81 (.t rfl)) <| WL.opR rfl (OpR.alloc 11 ze81) fun b3 => WL.opU (OpR.storeB (b := b3) 11 Z81 (Cellable.is tjournal_read e) rfl (.t rfl) (.t rfl)) fun _ => WL.sealed (t := tjournal_read) (u := e) 11 11 rfl rfl <| Ar <| Ao rfl (.loadB 5 Y58 Z58 rfl (.t rfl)) <| Ao rfl (.fieldAddr Tryz.underlying81 rfl J9 fjournal_read_2 (.t rfl)) <| Ao rfl (.load ty9 (.t rfl)) <| Ao rfl (.fieldAddr Tryz.underlying81 rfl J9 fjournal_read_3 (.t rfl)) <| Ao rfl (.load ty9 (.t rfl)) ?_
    obtain ⟨page, hv19, hm⟩ := Bs hm
    refine Ao rfl (.callG (rin := [(700003, GlT Tryz.prog "internal/strconv.uint64pow10" .u64 Lib.pow10Tab), (700007, Gl (tA 64 (tI .u8)) 7 gv7)]) C34 (journal_page_spec _ _ _ _ _ hv19) ⟨rfl, rfl, trivial⟩ ⟨rfl, rfl, ⟨rfl, rfl, trivial⟩⟩ ⟨(.t rfl), (.t rfl), (.t rfl), trivial⟩) <| Am rfl rfl <| Ao rfl (.extract0 (.t rfl)) <| Ao rfl (.extract1 (.t rfl)) <| Ag rfl rfl <| Ag rfl rfl <| An <| W.seq <| Aw <| Am rfl rfl <| Ao rfl (.fieldAddr Tryz.underlying81 rfl J9 fjournal_read_4 (.t rfl)) <| Ao rfl (.load ty9 (.t rfl)) <| Ao rfl (.neS (.t rfl) (.t rfl)) <| An <| W.cB hm (.t rfl) (fun hp21 hm => ?_) (fun hp21 hm => ?_)
    ·refine W.seq <| W.weakR (res' := [(8, Dec.Own tS 9 k1 texts.length), (9, Dec.Own tS 9 k2 parts.length), (1000000, Dec.Own tS 9 k s0_.pages_.length), (3, (Bx 2 true 58 (tjournal_mark.is v) b1)), (5, (Bx 2 true 58 (tjournal_mark.is m0_) b2)), (0, (Bx 5 true 56 ((tpagestore_Store_k0 k).is s0_) b)), (700000, GlE 0), (700001, GlI 1), (700002, GlI 2), (700003, GlT Tryz.prog "internal/strconv.uint64pow10" .u64 Lib.pow10Tab), (700007, Gl (tA 64 (tI .u8)) 7 gv7)]) ⟨rfl, rfl, ⟨rfl, rfl, ⟨rfl, rfl, ⟨rfl, rfl, ⟨rfl, rfl, ⟨rfl, rfl, ⟨rfl, rfl, ⟨rfl, rfl, ⟨rfl, rfl, ⟨rfl, rfl, ⟨rfl, rfl, trivial⟩⟩⟩⟩⟩⟩⟩⟩⟩⟩⟩ <| W.drawM [.c (tjournal_mark.is m0_), .c (tO tS (none : Tok) ([] : List Str)), .c Asn.any, .c (I6.is (17 : Int))] [([], [5]), ([], []), ([0], [3]), ([], [])] [2] [[], [], [], []] (fun m cv2 => match m with | 0 => [(8, Dec.Own tS 9 k1 texts.length), (9, Dec.Own tS 9 k2 parts.length), (1000000, Dec.Own tS 9 k s0_.pages_.length), (3, (Bx 2 true 58 (tjournal_mark.is v) b1)), (5, (Bx 2 true 58 (tjournal_mark.is m0_) b2)), (0, (Bx 5 true 56 ((tpagestore_Store_k0 k).is s0_) b)), (700000, GlE 0), (700001, GlI 1), (700002, GlI 2), (700003, GlT Tryz.prog "internal/strconv.uint64pow10" .u64 Lib.pow10Tab), (700007, Gl (tA 64 (tI .u8)) 7 gv7)] | _ => [(3, (Bx 2 true 58 (tjournal_mark.is m0_) b1)), (8, Dec.Own tS 9 k1 texts.length), (9, Dec.Own tS 9 k2 parts.length), (1000000, Dec.Own tS 9 k s0_.pages_.length), (5, (Bx 2 true 58 (tjournal_mark.is m0_) b2)), (0, (Bx 5 true 56 ((tpagestore_Store_k0 k).is s0_) b)), (700000, GlE 0), (700001, GlI 1), (700002, GlI 2), (700003, GlT Tryz.prog "internal/strconv.uint64pow10" .u64 Lib.pow10Tab), (700007, Gl (tA 64 (tI .u8)) 7 gv7)]) (fun _ => none) Mx rfl rfl rfl rfl rfl ⟨fun _ _ _ _ => rfl, ⟨fun _ _ _ _ => rfl, ⟨fun _ _ _ _ => rfl, ⟨fun _ _ _ _ => rfl, trivial⟩⟩⟩⟩ rfl ⟨.inr ⟨fun cv2 => [(5, (Bx 2 true 58 (tjournal_mark.is m0_) b2))], (AllUpTo.at ⟨(fun _ _ => ⟨rfl, rfl, trivial⟩), (fun hw => absurd hw (by decide))⟩), fun cv2 => Op1.loadB 5 Y58 Z58 rfl (.t rfl)⟩, ⟨mo fun cv2 => Op1.assign (Opd.nilO (t := tS)), ⟨.inl rfl, ⟨mo fun cv2 => Op1.assign .i64, trivial⟩⟩⟩⟩ ⟨⟨_, _, _, [3], (fun cv2 => [(3, (Bx 2 true 58 (tjournal_mark.is m0_) b1))]), rfl, rfl, rfl, rfl, fun _ => rfl, fun _ _ => rfl, fun cv2 => OpR.viaU (OpR.storeB (b := b1) 3 Z58 (Cellable.is tjournal_mark m0_) rfl (.t rfl) (.t rfl))⟩, trivial⟩ fun cv2 => WN.seq ?_
     have hr22 := Si hm
     clear hm
     subst hr22
     have hm := hk9
     try dsimp only at hm
     have hr := Si hm
     clear hm
     subst hr
     exact W.addNil (t := tS) (E := 9) 88888 <| W.retQ3 (none : Tok) rfl rfl (ResAt.tmp (.t rfl)) (ResAt.cell 3 Y58 Z58 rfl (.t rfl)) (ResAt.tmp (.t rfl)) ⟨rfl, rfl, ⟨rfl, rfl, ⟨rfl, rfl, ⟨rfl, rfl, ⟨rfl, rfl, ⟨rfl, rfl, ⟨rfl, rfl, ⟨rfl, rfl, trivial⟩⟩⟩⟩⟩⟩⟩⟩
    ·refine W.skip <| Aq <| Aw <| Ao rfl (.fieldAddr Tryz.underlying81 rfl J3 fjournal_read_0 (.t rfl)) <| Ao rfl (.load ty3 (.t rfl)) <| Am rfl rfl <| Ao rfl (.build (s := tjournal_mark) (x := (⟨e.at_, page.2⟩ : journal_mark)) zjournal_mark_f rfl Tryz.underlying58 (zjournal_mark_sz _ Tryz.underlying58) ze58 ⟨_, I6, e.at_, _, _, rfl, Z3, (.t rfl), sjournal_mark_0, ⟨_, tS, page.2, _, _, rfl, Z9, (.t rfl), sjournal_mark_1, rfl⟩⟩) <| WL.opU (OpR.storeB (b := b2) 5 Z58 (Cellable.is tjournal_mark (⟨e.at_, page.2⟩ : journal_mark)) rfl (.t rfl) (.t rfl)) fun _ => Ar <| Am rfl rfl <| Ao rfl (.fieldAddr Tryz.underlying81 rfl J9 fjournal_read_3 (.t rfl)) <| Ao rfl (.load ty9 (.t rfl)) <| Ao rfl (.buildSlice (n := 1) (ys := [(0, e.text_)]) (z := ([] : Str)) (xs := [e.text_]) U26 el9 ze9 ⟨rfl, (.t rfl), trivial⟩ (by simp) (by decide) rfl) ?_
     obtain ⟨parts1, hv23, hm⟩ := Bs hm
     refine WL.opR rfl (OpR.appC (key := 9) hv23 U26 el9 (.t rfl) (.t rfl) rfl) fun k3 => Ag rfl rfl <| An <| W.seq <| Aw <| Ao rfl (.fieldAddr Tryz.underlying81 rfl J9 fjournal_read_2 (.t rfl)) <| Ao rfl (.load ty9 (.t rfl)) <| Ao rfl (.eqS (.t rfl) (.str rfl (by decide))) <| An <| W.cB hm (.t rfl) (fun hp25 hm => ?_) (fun hp25 hm => ?_)
     ·exact W.exit rfl <| Aq <| W.region <| Ao rfl (.addI (.t rfl) .i64 (range_inR hi11 hp16 hlen12)) <| Am rfl rfl <| WL.nil <| WN.again es.length (i + 1, pre ++ [e], es, ((texts, parts1, v, (⟨e.at_, page.2⟩ : journal_mark)), (k1, k3))) (range_lt hn13) ⟨rfl, range_step hxs10, range_idx hi11, hm⟩ ⟨.q rfl, .q rfl, .q rfl, .q rfl, .q rfl, .q rfl, .q rfl, trivial⟩ ⟨rfl, rfl, ⟨rfl, rfl, ⟨rfl, rfl, ⟨rfl, rfl, ⟨rfl, rfl, ⟨rfl, rfl, ⟨rfl, rfl, ⟨rfl, rfl, ⟨rfl, rfl, ⟨rfl, rfl, ⟨rfl, rfl, trivial⟩⟩⟩⟩⟩⟩⟩⟩⟩⟩⟩
     ·refine W.skip <| Aq <| Aw <| WL.mv rfl rfl ?_
      obtain ⟨join, hv26, hm⟩ := Bs hm
      refine Ao rfl (.call C43 (strings_Join_spec _ _ _ hv26) ⟨(Opd.own (.t rfl)), (.str rfl (by decide)), trivial⟩) <| Ag rfl rfl <| An <| W.seq <| Aw <| WL.mv rfl rfl ?_
      obtain ⟨cut, hv27, hm⟩ := Bs hm
      refine Ao rfl (.call C33 (journal_cut_spec _ _ _ hv27) ⟨(.t rfl), trivial⟩) <| WL.mv rfl rfl ?_
      obtain ⟨string, hv28, hm⟩ := Bs hm
      refine Ao rfl (.call C44 (slices_Equal_string_string_spec _ _ _ _ hv28) ⟨(.t rfl), (Opd.own (.t rfl)), trivial⟩) <| Ao rfl (.notB (.t rfl)) <| An <| W.cR hm (.t rfl) (fun hp30 hm => ?_) (fun hp30 hm => ?_)
      ·refine W.seq <| W.weakR (res' := [(8, Dec.Own tS 9 k1 texts.length), (9, Dec.Own tS 9 k3 parts1.length), (1000000, Dec.Own tS 9 k s0_.pages_.length), (3, (Bx 2 true 58 (tjournal_mark.is v) b1)), (5, (Bx 2 true 58 (tjournal_mark.is (⟨e.at_, page.2⟩ : journal_mark)) b2)), (0, (Bx 5 true 56 ((tpagestore_Store_k0 k).is s0_) b)), (700000, GlE 0), (700001, GlI 1), (700002, GlI 2), (700003, GlT Tryz.prog "internal/strconv.uint64pow10" .u64 Lib.pow10Tab), (700007, Gl (tA 64 (tI .u8)) 7 gv7)]) ⟨rfl, rfl, ⟨rfl, rfl, ⟨rfl, rfl, ⟨rfl, rfl, ⟨rfl, rfl, ⟨rfl, rfl, ⟨rfl, rfl, ⟨rfl, rfl, ⟨rfl, rfl, ⟨rfl, rfl, ⟨rfl, rfl, trivial⟩⟩⟩⟩⟩⟩⟩⟩⟩⟩⟩ <| W.drawM [.c (tjournal_mark.is (⟨e.at_, page.2⟩ : journal_mark)), .c (tO tS (none : Tok) ([] : List Str)), .c Asn.any, .c (I6.is (17 : Int))] [([], [5]), ([], []), ([0], [3]), ([], [])] [2] [[], [], [], []] (fun m cv3 => match m with | 0 => [(8, Dec.Own tS 9 k1 texts.length), (9, Dec.Own tS 9 k3 parts1.length), (1000000, Dec.Own tS 9 k s0_.pages_.length), (3, (Bx 2 true 58 (tjournal_mark.is v) b1)), (5, (Bx 2 true 58 (tjournal_mark.is (⟨e.at_, page.2⟩ : journal_mark)) b2)), (0, (Bx 5 true 56 ((tpagestore_Store_k0 k).is s0_) b)), (700000, GlE 0), (700001, GlI 1), (700002, GlI 2), (700003, GlT Tryz.prog "internal/strconv.uint64pow10" .u64 Lib.pow10Tab), (700007, Gl (tA 64 (tI .u8)) 7 gv7)] | _ => [(3, (Bx 2 true 58 (tjournal_mark.is (⟨e.at_, page.2⟩ : journal_mark)) b1)), (8, Dec.Own tS 9 k1 texts.length), (9, Dec.Own tS 9 k3 parts1.length), (1000000, Dec.Own tS 9 k s0_.pages_.length), (5, (Bx 2 true 58 (tjournal_mark.is (⟨e.at_, page.2⟩ : journal_mark)) b2)), (0, (Bx 5 true 56 ((tpagestore_Store_k0 k).is s0_) b)), (700000, GlE 0), (700001, GlI 1), (700002, GlI 2), (700003, GlT Tryz.prog "internal/strconv.uint64pow10" .u64 Lib.pow10Tab), (700007, Gl (tA 64 (tI .u8)) 7 gv7)]) (fun _ => none) Mx rfl rfl rfl rfl rfl ⟨fun _ _ _ _ => rfl, ⟨fun _ _ _ _ => rfl, ⟨fun _ _ _ _ => rfl, ⟨fun _ _ _ _ => rfl, trivial⟩⟩⟩⟩ rfl ⟨.inr ⟨fun cv3 => [(5, (Bx 2 true 58 (tjournal_mark.is (⟨e.at_, page.2⟩ : journal_mark)) b2))], (AllUpTo.at ⟨(fun _ _ => ⟨rfl, rfl, trivial⟩), (fun hw => absurd hw (by decide))⟩), fun cv3 => Op1.loadB 5 Y58 Z58 rfl (.t rfl)⟩, ⟨mo fun cv3 => Op1.assign (Opd.nilO (t := tS)), ⟨.inl rfl, ⟨mo fun cv3 => Op1.assign .i64, trivial⟩⟩⟩⟩ ⟨⟨_, _, _, [3], (fun cv3 => [(3, (Bx 2 true 58 (tjournal_mark.is (⟨e.at_, page.2⟩ : journal_mark)) b1))]), rfl, rfl, rfl, rfl, fun _ => rfl, fun _ _ => rfl, fun cv3 => OpR.viaU (OpR.storeB (b := b1) 3 Z58 (Cellable.is tjournal_mark (⟨e.at_, page.2⟩ : journal_mark)) rfl (.t rfl) (.t rfl))⟩, trivial⟩ fun cv3 => WN.seq ?_
       have hr31 := Si hm
       clear hm
       subst hr31
       have hm := hk9
       try dsimp only at hm
       have hr := Si hm
       clear hm
       subst hr
       exact W.addNil (t := tS) (E := 9) 88888 <| W.retQ3 (none : Tok) rfl rfl (ResAt.tmp (.t rfl)) (ResAt.cell 3 Y58 Z58 rfl (.t rfl)) (ResAt.tmp (.t rfl)) ⟨rfl, rfl, ⟨rfl, rfl, ⟨rfl, rfl, ⟨rfl, rfl, ⟨rfl, rfl, ⟨rfl, rfl, ⟨rfl, rfl, ⟨rfl, rfl, trivial⟩⟩⟩⟩⟩⟩⟩⟩
      ·refine W.skip <| Aq <| W.region <| Am rfl rfl <| Am rfl rfl <| Ao rfl (.buildSlice (n := 1) (ys := [(0, join)]) (z := ([] : Str)) (xs := [join]) U26 el9 ze9 ⟨rfl, (.t rfl), trivial⟩ (by simp) (by decide) rfl) ?_
       obtain ⟨texts1, hv32, hm⟩ := Bs hm
       exact WL.opR rfl (OpR.appC (key := 8) hv32 U26 el9 (.t rfl) (.t rfl) rfl) fun k4 => Ag rfl rfl <| WL.addNil (t := tS) (E := 9) 9 <| Ao rfl (.assign (Opd.nilO (t := tS))) <| WL.nil <| WN.block <| Aq <| W.region <| Ao rfl (.addI (.t rfl) .i64 (range_inR hi11 hp16 hlen12)) <| Am rfl rfl <| WL.nil <| WN.again es.length (i + 1, pre ++ [e], es, ((texts1, ([] : List Str), v, (⟨e.at_, page.2⟩ : journal_mark)), (k4, (none : Tok)))) (range_lt hn13) ⟨rfl, range_step hxs10, range_idx hi11, hm⟩ ⟨.q rfl, .q rfl, .q rfl, .q rfl, .q rfl, .q rfl, .q rfl, trivial⟩ ⟨rfl, rfl, ⟨rfl, rfl, ⟨rfl, rfl, ⟨rfl, rfl, ⟨rfl, rfl, ⟨rfl, rfl, ⟨rfl, rfl, ⟨rfl, rfl, ⟨rfl, rfl, ⟨rfl, rfl, ⟨rfl, rfl, trivial⟩⟩⟩⟩⟩⟩⟩⟩⟩⟩⟩
   ·have hrest18 := range_end hxs10 hi11 (of_decide_eq_false hc15)
    subst hrest18
    rw [M.journal_load_loop1.eq_1] at hm
    refine W.exit rfl ?_
    have hr33 := Si hm
    clear hm
    subst hr33
    have hm := hk9
    try dsimp only at hm
    refine Aq <| W.seq <| Aw <| Am rfl rfl <| Ao rfl (.lenL U26 (Opd.own (.t rfl))) <| Ao rfl (.gtI (.t rfl) .i64) <| An <| W.cD hm (.t rfl) (fun hp35 hm => ?_) (fun hp35 hm => ?_)
    ·refine W.seq <| W.weakR (res' := [(8, Dec.Own tS 9 k1 texts.length), (9, Dec.Own tS 9 k2 parts.length), (1000000, Dec.Own tS 9 k s0_.pages_.length), (3, (Bx 2 true 58 (tjournal_mark.is v) b1)), (5, (Bx 2 true 58 (tjournal_mark.is m0_) b2)), (0, (Bx 5 true 56 ((tpagestore_Store_k0 k).is s0_) b)), (700000, GlE 0), (700001, GlI 1), (700002, GlI 2), (700003, GlT Tryz.prog "internal/strconv.uint64pow10" .u64 Lib.pow10Tab), (700007, Gl (tA 64 (tI .u8)) 7 gv7)]) ⟨rfl, rfl, ⟨rfl, rfl, ⟨rfl, rfl, ⟨rfl, rfl, ⟨rfl, rfl, ⟨rfl, rfl, ⟨rfl, rfl, ⟨rfl, rfl, ⟨rfl, rfl, ⟨rfl, rfl, ⟨rfl, rfl, trivial⟩⟩⟩⟩⟩⟩⟩⟩⟩⟩⟩ <| W.drawM [.c (tjournal_mark.is m0_), .c (tO tS (none : Tok) ([] : List Str)), .c Asn.any, .c (I6.is (17 : Int))] [([], [5]), ([], []), ([0], [3]), ([], [])] [2] [[], [], [], []] (fun m cv4 => match m with | 0 => [(8, Dec.Own tS 9 k1 texts.length), (9, Dec.Own tS 9 k2 parts.length), (1000000, Dec.Own tS 9 k s0_.pages_.length), (3, (Bx 2 true 58 (tjournal_mark.is v) b1)), (5, (Bx 2 true 58 (tjournal_mark.is m0_) b2)), (0, (Bx 5 true 56 ((tpagestore_Store_k0 k).is s0_) b)), (700000, GlE 0), (700001, GlI 1), (700002, GlI 2), (700003, GlT Tryz.prog "internal/strconv.uint64pow10" .u64 Lib.pow10Tab), (700007, Gl (tA 64 (tI .u8)) 7 gv7)] | _ => [(3, (Bx 2 true 58 (tjournal_mark.is m0_) b1)), (8, Dec.Own tS 9 k1 texts.length), (9, Dec.Own tS 9 k2 parts.length), (1000000, Dec.Own tS 9 k s0_.pages_.length), (5, (Bx 2 true 58 (tjournal_mark.is m0_) b2)), (0, (Bx 5 true 56 ((tpagestore_Store_k0 k).is s0_) b)), (700000, GlE 0), (700001, GlI 1), (700002, GlI 2), (700003, GlT Tryz.prog "internal/strconv.uint64pow10" .u64 Lib.pow10Tab), (700007, Gl (tA 64 (tI .u8)) 7 gv7)]) (fun _ => none) Mx rfl rfl rfl rfl rfl ⟨fun _ _ _ _ => rfl, ⟨fun _ _ _ _ => rfl, ⟨fun _ _ _ _ => rfl, ⟨fun _ _ _ _ => rfl, trivial⟩⟩⟩⟩ rfl ⟨.inr ⟨fun cv4 => [(5, (Bx 2 true 58 (tjournal_mark.is m0_) b2))], (AllUpTo.at ⟨(fun _ _ => ⟨rfl, rfl, trivial⟩), (fun hw => absurd hw (by decide))⟩), fun cv4 => Op1.loadB 5 Y58 Z58 rfl (.t rfl)⟩, ⟨mo fun cv4 => Op1.assign (Opd.nilO (t := tS)), ⟨.inl rfl, ⟨mo fun cv4 => Op1.assign .i64, trivial⟩⟩⟩⟩ ⟨⟨_, _, _, [3], (fun cv4 => [(3, (Bx 2 true 58 (tjournal_mark.is m0_) b1))]), rfl, rfl, rfl, rfl, fun _ => rfl, fun _ _ => rfl, fun cv4 => OpR.viaU (OpR.storeB (b := b1) 3 Z58 (Cellable.is tjournal_mark m0_) rfl (.t rfl) (.t rfl))⟩, trivial⟩ fun cv4 => WN.seq ?_
     have hr := Si hm
     clear hm
     subst hr
     exact W.addNil (t := tS) (E := 9) 88888 <| W.retQ3 (none : Tok) rfl rfl (ResAt.tmp (.t rfl)) (ResAt.cell 3 Y58 Z58 rfl (.t rfl)) (ResAt.tmp (.t rfl)) ⟨rfl, rfl, ⟨rfl, rfl, ⟨rfl, rfl, ⟨rfl, rfl, ⟨rfl, rfl, ⟨rfl, rfl, ⟨rfl, rfl, ⟨rfl, rfl, trivial⟩⟩⟩⟩⟩⟩⟩⟩
    ·refine W.skip <| Aq <| W.seq <| W.weakR (res' := [(8, Dec.Own tS 9 k1 texts.length), (9, Dec.Own tS 9 k2 parts.length), (1000000, Dec.Own tS 9 k s0_.pages_.length), (3, (Bx 2 true 58 (tjournal_mark.is v) b1)), (5, (Bx 2 true 58 (tjournal_mark.is m0_) b2)), (0, (Bx 5 true 56 ((tpagestore_Store_k0 k).is s0_) b)), (700000, GlE 0), (700001, GlI 1), (700002, GlI 2), (700003, GlT Tryz.prog "internal/strconv.uint64pow10" .u64 Lib.pow10Tab), (700007, Gl (tA 64 (tI .u8)) 7 gv7)]) ⟨rfl, rfl, ⟨rfl, rfl, ⟨rfl, rfl, ⟨rfl, rfl, ⟨rfl, rfl, ⟨rfl, rfl, ⟨rfl, rfl, ⟨rfl, rfl, ⟨rfl, rfl, ⟨rfl, rfl, ⟨rfl, rfl, trivial⟩⟩⟩⟩⟩⟩⟩⟩⟩⟩⟩ <| W.drawM [.c (tO tS k1 texts), .c (tjournal_mark.is m0_), .c (tO tS k1 texts), .c Asn.any, .c (I6.is (0 : Int))] [([], [8]), ([], [5]), ([0], []), ([1], [3]), ([], [])] [3] [[], [], [], [], []] (fun m cv5 => match m with | 0 => [(8, Dec.Own tS 9 k1 texts.length), (9, Dec.Own tS 9 k2 parts.length), (1000000, Dec.Own tS 9 k s0_.pages_.length), (3, (Bx 2 true 58 (tjournal_mark.is v) b1)), (5, (Bx 2 true 58 (tjournal_mark.is m0_) b2)), (0, (Bx 5 true 56 ((tpagestore_Store_k0 k).is s0_) b)), (700000, GlE 0), (700001, GlI 1), (700002, GlI 2), (700003, GlT Tryz.prog "internal/strconv.uint64pow10" .u64 Lib.pow10Tab), (700007, Gl (tA 64 (tI .u8)) 7 gv7)] | _ => [(3, (Bx 2 true 58 (tjournal_mark.is m0_) b1)), (8, Dec.Own tS 9 k1 texts.length), (9, Dec.Own tS 9 k2 parts.length), (1000000, Dec.Own tS 9 k s0_.pages_.length), (5, (Bx 2 true 58 (tjournal_mark.is m0_) b2)), (0, (Bx 5 true 56 ((tpagestore_Store_k0 k).is s0_) b)), (700000, GlE 0), (700001, GlI 1), (700002, GlI 2), (700003, GlT Tryz.prog "internal/strconv.uint64pow10" .u64 Lib.pow10Tab), (700007, Gl (tA 64 (tI .u8)) 7 gv7)]) (fun _ => none) Mx rfl rfl rfl rfl rfl ⟨fun _ _ _ _ => rfl, ⟨fun _ _ _ _ => rfl, ⟨fun _ _ _ _ => rfl, ⟨fun _ _ _ _ => rfl, ⟨fun _ _ _ _ => rfl, trivial⟩⟩⟩⟩⟩ rfl ⟨mo fun cv5 => Op1.move (.t rfl), ⟨.inr ⟨fun cv5 => [(5, (Bx 2 true 58 (tjournal_mark.is m0_) b2))], (AllUpTo.at ⟨(fun _ _ => ⟨rfl, rfl, trivial⟩), (fun hw => absurd hw (by decide))⟩), fun cv5 => Op1.loadB 5 Y58 Z58 rfl (.t rfl)⟩, ⟨mo fun cv5 => Op1.assign (.t rfl), ⟨.inl rfl, ⟨mo fun cv5 => Op1.assign .i64, trivial⟩⟩⟩⟩⟩ ⟨⟨_, _, _, [3], (fun cv5 => [(3, (Bx 2 true 58 (tjournal_mark.is m0_) b1))]), rfl, rfl, rfl, rfl, fun _ => rfl, fun _ _ => rfl, fun cv5 => OpR.viaU (OpR.storeB (b := b1) 3 Z58 (Cellable.is tjournal_mark m0_) rfl (.t rfl) (.t rfl))⟩, trivial⟩ fun cv5 => WN.seq ?_
     have hr := Si hm
     clear hm
     subst hr
     exact W.weakR (res' := [(8, Dec.Own tS 9 k1 texts.length), (9, Dec.Own tS 9 k2 parts.length), (1000000, Dec.Own tS 9 k s0_.pages_.length), (3, (Bx 2 true 58 (tjournal_mark.is m0_) b1)), (5, (Bx 2 true 58 (tjournal_mark.is m0_) b2)), (0, (Bx 5 true 56 ((tpagestore_Store_k0 k).is s0_) b)), (700000, GlE 0), (700001, GlI 1), (700002, GlI 2), (700003, GlT Tryz.prog "internal/strconv.uint64pow10" .u64 Lib.pow10Tab), (700007, Gl (tA 64 (tI .u8)) 7 gv7)]) ⟨rfl, rfl, ⟨rfl, rfl, ⟨rfl, rfl, ⟨rfl, rfl, ⟨rfl, rfl, ⟨rfl, rfl, ⟨rfl, rfl, ⟨rfl, rfl, ⟨rfl, rfl, ⟨rfl, rfl, ⟨rfl, rfl, trivial⟩⟩⟩⟩⟩⟩⟩⟩⟩⟩⟩ <| W.rekey (res' := [(88888, Dec.Own tS 9 k1 texts.length), (9, Dec.Own tS 9 k2 parts.length), (1000000, Dec.Own tS 9 k s0_.pages_.length), (3, (Bx 2 true 58 (tjournal_mark.is m0_) b1)), (5, (Bx 2 true 58 (tjournal_mark.is m0_) b2)), (0, (Bx 5 true 56 ((tpagestore_Store_k0 k).is s0_) b)), (700000, GlE 0), (700001, GlI 1), (700002, GlI 2), (700003, GlT Tryz.prog "internal/strconv.uint64pow10" .u64 Lib.pow10Tab), (700007, Gl (tA 64 (tI .u8)) 7 gv7)]) rfl <| W.retQ3 k1 rfl rfl (ResAt.tmp (.t rfl)) (ResAt.cell 3 Y58 Z58 rfl (.t rfl)) (ResAt.tmp (.t rfl)) ⟨rfl, rfl, ⟨rfl, rfl, ⟨rfl, rfl, ⟨rfl, rfl, ⟨rfl, rfl, ⟨rfl, rfl, ⟨rfl, rfl, ⟨rfl, rfl, trivial⟩⟩⟩⟩⟩⟩⟩⟩
theorem journal_Open_spec (n : Nat) (s0_ : pagestore_Store) (b : Nat) (k : Tok) (r : (Option journal_Journal) × Int) (hm : M.journal_Open n s0_ = some r) : FSpecR Tryz.prog 14 [(Bp b 0)] [(0, (Bx 5 true 56 ((tpagestore_Store_k0 k).is s0_) b)), (1000000, Dec.Own tS 9 k s0_.pages_.length), (700000, GlE 0), (700001, GlI 1), (700002, GlI 2), (700003, GlT Tryz.prog "internal/strconv.uint64pow10" .u64 Lib.pow10Tab), (700007, Gl (tA 64 (tI .u8)) 7 gv7)] (fun kx : Nat × Tok => (Asn.tuple2 (ObP kx r.1) (I6.is r.2))) (fun kx : Nat × Tok => [(0, (Bx 5 true 56 ((tpagestore_Store_k0 k).is s0_) b)), (1000000, Dec.Own tS 9 k s0_.pages_.length), (700000, GlE 0), (700001, GlI 1), (700002, GlI 2), (700003, GlT Tryz.prog "internal/strconv.uint64pow10" .u64 Lib.pow10Tab), (700007, Gl (tA 64 (tI .u8)) 7 gv7), (88888, ObR (fun kq => (tMap (tP (tOb b) (tP (tOT tS kq) (tP I6 (tOne tjournal_mark)))) (fun x : journal_Journal => (x.Store, x.texts_, x.lasting_, x.last_)))) 60 tS 9 (fun x : journal_Journal => x.texts_) kx r.1)]) := by
 unfold M.journal_Open at hm
 refine FSpecR.of Tryz.func14 rfl rfl rfl fun g0 => Aw <| Ao rfl (.assign (show Opd _ (Operand.const (Value.pointer none)) (Asn.eq (Value.pointer none)) from fun _ _ _ => rfl)) <| Ao rfl (.assign .i64) <| Ar <| WL.mv rfl rfl ?_
 obtain ⟨load, hv1, hm⟩ := Bs hm
 refine WL.weakR (res' := [(0, (Bx 5 true 56 ((tpagestore_Store_k0 k).is s0_) b)), (1000000, Dec.Own tS 9 k s0_.pages_.length), (700000, GlE 0), (700001, GlI 1), (700002, GlI 2), (700003, GlT Tryz.prog "internal/strconv.uint64pow10" .u64 Lib.pow10Tab), (700007, Gl (tA 64 (tI .u8)) 7 gv7)]) ⟨rfl, rfl, ⟨rfl, rfl, ⟨rfl, rfl, ⟨rfl, rfl, ⟨rfl, rfl, ⟨rfl, rfl, ⟨rfl, rfl, trivial⟩⟩⟩⟩⟩⟩⟩ <| WL.opR rfl (OpR.call (us := [0, 1000000, 700000, 700001, 700002, 700003, 700007]) (A := fun kx : Tok => (Asn.tuple3 (tO tS kx load.1) (tjournal_mark.is load.2.1) (I6.is load.2.2))) C32 (FSpecR.keys (rin' := [(0, (Bx 5 true 56 ((tpagestore_Store_k0 k).is s0_) b)), (1000000, Dec.Own tS 9 k s0_.pages_.length), (700000, GlE 0), (700001, GlI 1), (700002, GlI 2), (700003, GlT Tryz.prog "internal/strconv.uint64pow10" .u64 Lib.pow10Tab), (700007, Gl (tA 64 (tI .u8)) 7 gv7)]) (out' := fun kx : Tok => [(0, (Bx 5 true 56 ((tpagestore_Store_k0 k).is s0_) b)), (1000000, Dec.Own tS 9 k s0_.pages_.length), (700000, GlE 0), (700001, GlI 1), (700002, GlI 2), (700003, GlT Tryz.prog "internal/strconv.uint64pow10" .u64 Lib.pow10Tab), (700007, Gl (tA 64 (tI .u8)) 7 gv7), (9, Dec.Own tS 9 kx load.1.length)]) (journal_load_spec _ _ _ _ _ hv1) rfl (fun _ => rfl)) rfl ⟨(.t rfl), trivial⟩) fun k1 => Am rfl rfl <| Ao rfl (.extract30 (.t rfl)) <| Ao rfl (.extract31 (.t rfl)) <| Ao rfl (.extract32 (.t rfl)) <| WL.opR rfl (OpR.alloc 5 ze58) fun b1 => Ag rfl rfl <| WL.opU (OpR.storeB (b := b1) 5 Z58 (Cellable.is tjournal_mark load.2.1) rfl (.t rfl) (.t rfl)) fun _ => WL.sealed (t := tjournal_mark) (u := load.2.1) 5 5 rfl rfl <| Ag rfl rfl <| An <| W.seq <| Aw <| Am rfl rfl <| Ao rfl (.neI (.t rfl) .i64) ?_
 refine An <| W.cD hm (.t rfl) (fun hp3 hm => ?_) (fun hp3 hm => ?_)
 ·refine Aw <| Am rfl rfl <| Ao rfl (.assign (show Opd _ (Operand.const (Value.pointer none)) (Asn.eq (Value.pointer none)) from fun _ _ _ => rfl)) <| Ag rfl rfl <| WL.ns ?_
  have hr := Si hm
  clear hm
  subst hr
  exact W.obNil (fun kq => (tMap (tP (tOb b) (tP (tOT tS kq) (tP I6 (tOne tjournal_mark)))) (fun x : journal_Journal => (x.Store, x.texts_, x.lasting_, x.last_)))) 60 tS 9 (fun x : journal_Journal => x.texts_) (0, none) 2 88888 rfl <| W.ret2 ((0, none) : Nat × Tok) rfl rfl (.t rfl) (.t rfl) ⟨rfl, rfl, ⟨rfl, rfl, ⟨rfl, rfl, ⟨rfl, rfl, ⟨rfl, rfl, ⟨rfl, rfl, ⟨rfl, rfl, ⟨rfl, rfl, trivial⟩⟩⟩⟩⟩⟩⟩⟩
 ·refine W.skip <| Aq <| Aw <| Am rfl rfl <| Am rfl rfl <| Am rfl rfl <| Ao rfl (.lenL U26 (Opd.own (.t rfl))) <| Ao rfl (.load ty58 (.t rfl)) <| Ao rfl (.buildT (s := (tMap (tP tPa (tP (tL tS) (tP I6 (tOne tjournal_mark)))) (fun x : journal_Journal => (x.Store, x.texts_, x.lasting_, x.last_)))) (s' := (tMap (tP (tOb b) (tP (tOT tS k1) (tP I6 (tOne tjournal_mark)))) (fun x : journal_Journal => (x.Store, x.texts_, x.lasting_, x.last_)))) (x := (⟨(), load.1, (load.1.length : Int), load.2.1⟩ : journal_Journal)) zjournal_Journal_f rfl Tryz.underlying60 (zjournal_Journal_sz _ Tryz.underlying60) ze60 ⟨(tMap (tP (tOb b) (tP (tL tS) (tP I6 (tOne tjournal_mark)))) (fun x : journal_Journal => (x.Store, x.texts_, x.lasting_, x.last_))), _, (tOb b), (), _, _, rfl, Z29, (Opd.toOb (.t rfl)), ((FldSetT.map (m := (fun x : journal_Journal => (x.Store, x.texts_, x.lasting_, x.last_))) (f' := fun x y => { x with Store := y }) (FldSetT.here tPa (tOb b) (tP (tL tS) (tP I6 (tOne tjournal_mark))) rfl) (fun _ _ => rfl)).cast rfl rfl), ⟨(tMap (tP (tOb b) (tP (tOT tS k1) (tP I6 (tOne tjournal_mark)))) (fun x : journal_Journal => (x.Store, x.texts_, x.lasting_, x.last_))), _, (tOT tS k1), load.1, _, _, rfl, Z26, (Opd.toOT (.t rfl)), ((FldSetT.map (m := (fun x : journal_Journal => (x.Store, x.texts_, x.lasting_, x.last_))) (f' := fun x y => { x with texts_ := y }) (FldSetT.next (s := (tOb b)) (FldSetT.here (tL tS) (tOT tS k1) (tP I6 (tOne tjournal_mark)) rfl)) (fun _ _ => rfl)).cast rfl rfl), ⟨(tMap (tP (tOb b) (tP (tOT tS k1) (tP I6 (tOne tjournal_mark)))) (fun x : journal_Journal => (x.Store, x.texts_, x.lasting_, x.last_))), _, I6, (load.1.length : Int), _, _, rfl, Z3, (.t rfl), FldSet.toT ((FldSet.map (m := (fun x : journal_Journal => (x.Store, x.texts_, x.lasting_, x.last_))) (f' := fun x y => { x with lasting_ := y }) (FldSet.next (s := (tOb b)) (FldSet.next (s := (tOT tS k1)) (FldSet.here I6 (tOne tjournal_mark)))) (fun _ _ => rfl)).cast rfl rfl), ⟨(tMap (tP (tOb b) (tP (tOT tS k1) (tP I6 (tOne tjournal_mark)))) (fun x : journal_Journal => (x.Store, x.texts_, x.lasting_, x.last_))), _, tjournal_mark, load.2.1, _, _, rfl, Z58, (.t rfl), FldSet.toT ((FldSet.map (m := (fun x : journal_Journal => (x.Store, x.texts_, x.lasting_, x.last_))) (f' := fun x y => { x with last_ := y }) (FldSet.next (s := (tOb b)) (FldSet.next (s := (tOT tS k1)) (FldSet.next (s := I6) (FldSet.one tjournal_mark)))) (fun _ _ => rfl)).cast rfl rfl), ⟨rfl, rfl⟩⟩⟩⟩⟩) <| WL.opR rfl (OpR.boxB 22 (Cellable.is (tMap (tP (tOb b) (tP (tOT tS k1) (tP I6 (tOne tjournal_mark)))) (fun x : journal_Journal => (x.Store, x.texts_, x.lasting_, x.last_))) (⟨(), load.1, (load.1.length : Int), load.2.1⟩ : journal_Journal)) (.t rfl)) fun b2 => Ag rfl rfl <| Ao rfl (.assign .i64) <| WL.nil <| WN.weakR (res' := [(1000000, Dec.Own tS 9 k s0_.pages_.length), (9, Dec.Own tS 9 k1 load.1.length), (0, (Bx 5 true 56 ((tpagestore_Store_k0 k).is s0_) b)), (700000, GlE 0), (700001, GlI 1), (700002, GlI 2), (700003, GlT Tryz.prog "internal/strconv.uint64pow10" .u64 Lib.pow10Tab), (700007, Gl (tA 64 (tI .u8)) 7 gv7), (22, (Bx 5 true 60 ((tMap (tP (tOb b) (tP (tOT tS k1) (tP I6 (tOne tjournal_mark)))) (fun x : journal_Journal => (x.Store, x.texts_, x.lasting_, x.last_))).is (⟨(), load.1, (load.1.length : Int), load.2.1⟩ : journal_Journal)) b2))]) ⟨rfl, rfl, ⟨rfl, rfl, ⟨rfl, rfl, ⟨rfl, rfl, ⟨rfl, rfl, ⟨rfl, rfl, ⟨rfl, rfl, ⟨rfl, rfl, ⟨rfl, rfl, trivial⟩⟩⟩⟩⟩⟩⟩⟩⟩ <| WN.rekey (res' := [(1000000, Dec.Own tS 9 k s0_.pages_.length), (1000022, Dec.Own tS 9 k1 load.1.length), (0, (Bx 5 true 56 ((tpagestore_Store_k0 k).is s0_) b)), (700000, GlE 0), (700001, GlI 1), (700002, GlI 2), (700003, GlT Tryz.prog "internal/strconv.uint64pow10" .u64 Lib.pow10Tab), (700007, Gl (tA 64 (tI .u8)) 7 gv7), (22, (Bx 5 true 60 ((tMap (tP (tOb b) (tP (tOT tS k1) (tP I6 (tOne tjournal_mark)))) (fun x : journal_Journal => (x.Store, x.texts_, x.lasting_, x.last_))).is (⟨(), load.1, (load.1.length : Int), load.2.1⟩ : journal_Journal)) b2))]) rfl <| WN.seq ?_
  have hr := Si hm
  clear hm
  subst hr
  exact W.obClose (k1 := 22) (k2 := 1000022) (fun kq => (tMap (tP (tOb b) (tP (tOT tS kq) (tP I6 (tOne tjournal_mark)))) (fun x : journal_Journal => (x.Store, x.texts_, x.lasting_, x.last_)))) tS (fun x : journal_Journal => x.texts_) (b2, k1) (⟨(), load.1, (load.1.length : Int), load.2.1⟩ : journal_Journal) 2 88888 rfl rfl (by decide) rfl <| W.ret2 (b2, k1) rfl rfl (.t rfl) (.t rfl) ⟨rfl, rfl, ⟨rfl, rfl, ⟨rfl, rfl, ⟨rfl, rfl, ⟨rfl, rfl, ⟨rfl, rfl, ⟨rfl, rfl, ⟨rfl, rfl, trivial⟩⟩⟩⟩⟩⟩⟩⟩
theorem pagestore_Store_Append_1_spec (c : pagestore_Store) (c1 : Int) (c2 : Str) (b : Nat) (k : Tok) (b1 : Nat) (r : pagestore_Store × Int) (hm : M.pagestore_Store_Append_1 c c1 c2 = some r) : FSpecR Tryz.prog 39 [((tOb b).ptr ()), (Bp b1 0), (tS.ptr c2)] [(0, (Bx 5 true 56 ((tpagestore_Store_k0 k).is c) b)), (1000000, Dec.Own tS 9 k c.pages_.length), (1, (Bx 1 false 3 (I6.is c1) b1))] (fun kx : Tok => (Asn.eq (.tuple #[]))) (fun kx : Tok => [(0, (Bx 5 true 56 ((tpagestore_Store_k0 kx).is r.1) b)), (1000000, Dec.Own tS 9 kx r.1.pages_.length), (1, (Bx 1 false 3 (I6.is r.2) b1))]) := by
 unfold M.pagestore_Store_Append_1 at hm
 refine FSpecR.of Tryz.func39 rfl rfl rfl fun g0 => Aw <| Ao rfl (.ofOb (Op1.load (t := tOb b) ⟨Y29, Z29⟩ (.t rfl))) <| Ao rfl (.nilCheckB (.t rfl)) <| Ao rfl (.fieldAddrB (o := 0) Tryz.underlying56 rfl J26 (.t rfl) rfl) <| Ao rfl (.ofOT (Op1.loadBF (t := (tOT tS k)) (f := fun x : pagestore_Store => x.pages_) (u := c) 0 rfl ⟨ty26.agg, ty26.size⟩ (fpagestore_Store_k0_0 k) rfl (.t rfl))) <| Ao rfl (.lenL U26 (Opd.own (.t rfl))) <| WL.opU (OpR.storeB (b := b1) 1 Z3 (Cellable.is I6 (c.pages_.length : Int)) rfl (.t rfl) (.t rfl)) fun _ => WL.ns ?_
 obtain ⟨out, hv1, hm⟩ := Bs hm
 refine W.weakR (res' := [(1000000, Dec.Own tS 9 k c.pages_.length), (0, (Bx 5 true 56 ((tpagestore_Store_k0 k).is c) b)), (1, (Bx 1 false 3 (I6.is (c.pages_.length : Int)) b1))]) ⟨rfl, rfl, ⟨rfl, rfl, ⟨rfl, rfl, trivial⟩⟩⟩ <| W.drawM [.c (Bp b 0), .c (Bp b 0), .c (Bp b 0), .c (Bp b 0), .c (tO tS k c.pages_), .c (tS.is c2), .c ((tL tS).is [c2]), .f (fun cv => (tO tS (cv 0) out)), .c (Bp b 0), .c (Bp b 0), .c Asn.any] [([], [0]), ([], [0]), ([1], []), ([2], []), ([3], []), ([], [2]), ([5], []), ([4, 6], []), ([0], []), ([8], []), ([7, 9], [])] [7, 10] [[], [], [], [], [], [], [], [true], [], [], []] (fun m cv => match m with | 0 => [(1000000, Dec.Own tS 9 k c.pages_.length), (0, (Bx 5 true 56 ((tpagestore_Store_k0 k).is c) b)), (1, (Bx 1 false 3 (I6.is (c.pages_.length : Int)) b1))] | 1 => [(1000000, Dec.Own tS 9 (cv 0) out.length), (0, (Bx 5 true 56 ((tpagestore_Store_k0 k).is c) b)), (1, (Bx 1 false 3 (I6.is (c.pages_.length : Int)) b1))] | _ => [(0, (Bx 5 true 56 ((tpagestore_Store_k0 (cv 0)).is ({ c with pages_ := out } : pagestore_Store)) b)), (1000000, Dec.Own tS 9 (cv 0) out.length), (1, (Bx 1 false 3 (I6.is (c.pages_.length : Int)) b1))]) (fun _ => none) Mx rfl rfl rfl rfl rfl ⟨fun _ _ _ _ => rfl, ⟨fun _ _ _ _ => rfl, ⟨fun _ _ _ _ => rfl, ⟨fun _ _ _ _ => rfl, ⟨fun _ _ _ _ => rfl, ⟨fun _ _ _ _ => rfl, ⟨fun _ _ _ _ => rfl, ⟨fun m hm c t => by simp only [DA.at, upd_dep (r := [true]) (j := 0) rfl hm], ⟨fun _ _ _ _ => rfl, ⟨fun _ _ _ _ => rfl, ⟨fun _ _ _ _ => rfl, trivial⟩⟩⟩⟩⟩⟩⟩⟩⟩⟩⟩ rfl ⟨mo fun cv => Op1.ofOb (Op1.load (t := tOb b) ⟨Y29, Z29⟩ (.t rfl)), ⟨mo fun cv => Op1.ofOb (Op1.load (t := tOb b) ⟨Y29, Z29⟩ (.t rfl)), ⟨mo fun cv => Op1.nilCheckB (.t rfl), ⟨mo fun cv => Op1.fieldAddrB (o := 0) Tryz.underlying56 rfl J26 (.t rfl) rfl, ⟨.inr ⟨fun cv => [(0, (Bx 5 true 56 ((tpagestore_Store_k0 k).is c) b))], (AllUpTo.at ⟨⟨(fun _ _ => ⟨rfl, rfl, trivial⟩), (fun hw => absurd hw (by decide))⟩, (fun hw => absurd hw (by decide))⟩), fun cv => Op1.ofOT (Op1.loadBF (t := (tOT tS k)) (f := fun x : pagestore_Store => x.pages_) (u := c) 0 rfl ⟨ty26.agg, ty26.size⟩ (fpagestore_Store_k0_0 k) rfl (.t rfl))⟩, ⟨mo fun cv => Op1.load ty9 (.t rfl), ⟨mo fun cv => Op1.buildSlice (n := 1) (ys := [(0, c2)]) (z := ([] : Str)) (xs := [c2]) U26 el9 ze9 ⟨rfl, (.t rfl), trivial⟩ (by simp) (by decide) rfl, ⟨.inl rfl, ⟨mo fun cv => Op1.nilCheckB (.t rfl), ⟨mo fun cv => Op1.fieldAddrB (o := 0) Tryz.underlying56 rfl J26 (.t rfl) rfl, ⟨.inl rfl, trivial⟩⟩⟩⟩⟩⟩⟩⟩⟩⟩⟩ ⟨⟨_, _, _, [1000000], (fun cv => [(1000000, Dec.Own tS 9 (cv 0) out.length)]), rfl, rfl, rfl, rfl, fun _ => rfl, fun _ _ => rfl, fun cv => OpR.appC (key := 1000000) hv1 U26 el9 (.t rfl) (.t rfl) rfl⟩, ⟨⟨_, _, _, [0], (fun cv => [(0, (Bx 5 true 56 ((tpagestore_Store_k0 (cv 0)).is ({ c with pages_ := out } : pagestore_Store)) b))]), rfl, rfl, rfl, rfl, fun _ => rfl, fun _ _ => rfl, fun cv => OpR.viaU (OpR.storeBFT (b := b) (s := (tpagestore_Store_k0 k)) (s' := (tpagestore_Store_k0 (cv 0))) (t := (tOT tS (cv 0))) 0 rfl rfl ⟨ty26.agg, ty26.size⟩ (sTpagestore_Store_k0 k (cv 0)) rfl (show 0 + 1 ≤ 5 by decide) (.t rfl) (Opd.toOT (.t rfl)))⟩, trivial⟩⟩ (fun cv => ?_)
 have hr := Si hm
 clear hm
 subst hr
 exact WN.fin (cv 0) rfl (fun _ => rfl) ⟨rfl, rfl, ⟨rfl, rfl, ⟨rfl, rfl, trivial⟩⟩⟩
theorem pagestore_Store_burn_i0_spec (s0_ : pagestore_Store) (c : Int) (c1 : Str) (b : Nat) (k : Tok) (b1 : Nat) (r : Int × pagestore_Store × Int) (hm : M.pagestore_Store_burn_i0 s0_ c c1 = some r) : FSpecR Tryz.prog 38 [(Bp b 0), (cloA 39 [((tOb b).ptr ()), (Bp b1 0), (tS.ptr c1)])] [(0, (Bx 5 true 56 ((tpagestore_Store_k0 k).is s0_) b)), (1000000, Dec.Own tS 9 k s0_.pages_.length), (500101, (Bx 1 false 3 (I6.is c) b1))] (fun kx : Tok => (I6.is r.1)) (fun kx : Tok => [(0, (Bx 5 true 56 ((tpagestore_Store_k0 kx).is r.2.1) b)), (1000000, Dec.Own tS 9 kx r.2.1.pages_.length), (500101, (Bx 1 false 3 (I6.is r.2.2) b1))]) := by
 unfold M.pagestore_Store_burn_i0 at hm
 refine FSpecR.of Tryz.func38 rfl rfl rfl fun g0 => Aw <| Ao rfl (.assign .i64) <| An <| W.seq <| Aw <| Am rfl rfl <| Ao rfl (.nilCheckB (.t rfl)) <| Ao rfl (.fieldAddrB (o := 0) Tryz.underlying56 rfl J3 (.t rfl) rfl) <| Ao rfl (.loadBF 0 rfl ty3 (fpagestore_Store_k0_3 k) rfl (.t rfl)) <| Ao rfl (.eqI (.t rfl) .i64) <| An <| W.cD hm (.t rfl) (fun hp2 hm => ?_) (fun hp2 hm => ?_)
 ·refine Aw <| Am rfl rfl <| Ao rfl (.nilCheckB (.t rfl)) <| Ao rfl (.fieldAddrB (o := 0) Tryz.underlying56 rfl J4 (.t rfl) rfl) <| WL.opU (OpR.storeBF (b := b) 0 rfl ty4 (spagestore_Store_k0_4 k) rfl (show 4 + 1 ≤ 5 by decide) (.t rfl) .bool) fun _ => Ar <| Ao rfl (.assign .i64) <| WL.ns ?_
  have hr := Si hm
  clear hm
  subst hr
  exact W.ret1 k rfl (.t rfl) ⟨rfl, rfl, ⟨rfl, rfl, ⟨rfl, rfl, trivial⟩⟩⟩
 ·refine W.skip <| WN.seq ?_
  obtain ⟨s3, hs4, hk5⟩ := Bs hm
  clear hm
  refine W.join (fun s : pagestore_Store × Tok => s.1 = s3) (fun s => [(1, (cloA 39 [((tOb b).ptr ()), (Bp b1 0), (tS.ptr c1)]))]) (fun s => [(1000000, Dec.Own tS 9 s.2 s.1.pages_.length), (0, (Bx 5 true 56 ((tpagestore_Store_k0 s.2).is s.1) b)), (500101, (Bx 1 false 3 (I6.is c) b1))]) ?_ ?_
  ·rintro ⟨s0_1, k1⟩ hj10
   try dsimp only at hj10
   subst hj10
   have hm := hk5
   clear hk5
   try dsimp only at hm
   change W _ _ _ _ _ _ _ [(1, (cloA 39 [((tOb b).ptr ()), (Bp b1 0), (tS.ptr c1)]))] [(1000000, Dec.Own tS 9 k1 s0_1.pages_.length), (0, (Bx 5 true 56 ((tpagestore_Store_k0 k1).is s0_1) b)), (500101, (Bx 1 false 3 (I6.is c) b1))]
   refine Aw <| WL.mv rfl rfl ?_
   obtain ⟨⟨s0_2, w⟩, hv9, hm⟩ := Bs hm
   dsimp only at hm
   refine WL.weakR (res' := [(0, (Bx 5 true 56 ((tpagestore_Store_k0 k1).is s0_1) b)), (1000000, Dec.Own tS 9 k1 s0_1.pages_.length), (500101, (Bx 1 false 3 (I6.is c) b1))]) ⟨rfl, rfl, ⟨rfl, rfl, ⟨rfl, rfl, trivial⟩⟩⟩ <| WL.opR rfl (OpR.callClo (us := [0, 1000000, 500101]) (A := fun kx : Tok => (Asn.eq (.tuple #[]))) (As := []) C39 (.t rfl) (FSpecR.keys (rin' := [(0, (Bx 5 true 56 ((tpagestore_Store_k0 k1).is s0_1) b)), (1000000, Dec.Own tS 9 k1 s0_1.pages_.length), (500101, (Bx 1 false 3 (I6.is c) b1))]) (out' := fun kx : Tok => [(0, (Bx 5 true 56 ((tpagestore_Store_k0 kx).is s0_2) b)), (1000000, Dec.Own tS 9 kx s0_2.pages_.length), (500101, (Bx 1 false 3 (I6.is w) b1))]) (pagestore_Store_Append_1_spec _ _ _ _ _ _ _ hv9) rfl (fun _ => rfl)) rfl trivial) fun k2 => Ar <| Ao rfl (.assign .i64) <| WL.ns ?_
   have hr := Si hm
   clear hm
   subst hr
   exact W.ret1 k2 rfl (.t rfl) ⟨rfl, rfl, ⟨rfl, rfl, ⟨rfl, rfl, trivial⟩⟩⟩
  ·have hm := hs4
   clear hs4
   refine Aw <| Am rfl rfl <| Ao rfl (.nilCheckB (.t rfl)) <| Ao rfl (.fieldAddrB (o := 0) Tryz.underlying56 rfl J3 (.t rfl) rfl) <| Ao rfl (.loadBF 0 rfl ty3 (fpagestore_Store_k0_3 k) rfl (.t rfl)) <| Ao rfl (.gtI (.t rfl) .i64) <| An <| W.cD hm (.t rfl) (fun hp7 hm => ?_) (fun hp7 hm => ?_)
   ·refine W.region <| Am rfl rfl <| Ao rfl (.nilCheckB (.t rfl)) <| Ao rfl (.fieldAddrB (o := 0) Tryz.underlying56 rfl J3 (.t rfl) rfl) <| Ao rfl (.loadBF 0 rfl ty3 (fpagestore_Store_k0_3 k) rfl (.t rfl)) ?_
    obtain ⟨v, hv8, hm⟩ := Bs hm
    exact Ao rfl (.subC hv8 (.t rfl) .i64) <| Ao rfl (.nilCheckB (.t rfl)) <| Ao rfl (.fieldAddrB (o := 0) Tryz.underlying56 rfl J3 (.t rfl) rfl) <| WL.opU (OpR.storeBF (b := b) 0 rfl ty3 (spagestore_Store_k0_3 k) rfl (show 3 + 1 ≤ 5 by decide) (.t rfl) (.t rfl)) fun _ => WL.nil <| WN.meet (({ s0_ with fuse_ := v } : pagestore_Store), k) (Si hm) ⟨.q rfl, trivial⟩ ⟨rfl, rfl, ⟨rfl, rfl, ⟨rfl, rfl, trivial⟩⟩⟩
   ·exact W.skip <| WN.meet (s0_, k) (Si hm) ⟨.q rfl, trivial⟩ ⟨rfl, rfl, ⟨rfl, rfl, ⟨rfl, rfl, trivial⟩⟩⟩
theorem pagestore_Store_Append_spec (s0_ : pagestore_Store) (text : Str) (b : Nat) (k : Tok) (r : (Int × Int) × pagestore_Store) (hm : M.pagestore_Store_Append s0_ text = some r) : FSpecR Tryz.prog 30 [(Bp b 0), (tS.is text)] [(0, (Bx 5 true 56 ((tpagestore_Store_k0 k).is s0_) b)), (1000000, Dec.Own tS 9 k s0_.pages_.length)] (fun kx : Tok => (Asn.tuple2 (I6.is r.1.1) (I6.is r.1.2))) (fun kx : Tok => [(0, (Bx 5 true 56 ((tpagestore_Store_k0 kx).is r.2) b)), (1000000, Dec.Own tS 9 kx r.2.pages_.length)]) := by
 unfold M.pagestore_Store_Append at hm
 refine FSpecR.of Tryz.func30 rfl rfl rfl fun g0 => Aw <| Ao rfl (.box (t := tOb b) (Opd.toOb (.t rfl))) <| Ao rfl (.box (.t rfl)) <| Ao rfl (.assign .i64) <| Ao rfl (.assign .i64) <| An <| W.seq <| W.block <| Aw <| Ao rfl (.ofOb (Op1.load (t := tOb b) ⟨Y29, Z29⟩ (.t rfl))) <| Ao rfl (.nilCheckB (.t rfl)) <| Ao rfl (.fieldAddrB (o := 0) Tryz.underlying56 rfl J4 (.t rfl) rfl) <| Ao rfl (.loadBF 0 rfl ty4 (fpagestore_Store_k0_4 k) rfl (.t rfl)) <| Ag rfl rfl <| WL.ns ?_
 refine W.cB hm (.t rfl) (fun hp2 hm => ?_) (fun hp2 hm => ?_)
 ·refine Aw <| Ao rfl (.assign .i64) <| Ao rfl (.assign .i64) <| WL.ns ?_
  have hr := Si hm
  clear hm
  subst hr
  exact W.ret2 k rfl rfl (.t rfl) (.t rfl) ⟨rfl, rfl, ⟨rfl, rfl, trivial⟩⟩
 ·refine Aw <| Ao rfl (.load ty9 (.t rfl)) <| Ao rfl (.lenS U9 (.t rfl)) <| Ao rfl (.gtI (.t rfl) .i64) <| Ag rfl rfl <| An <| W.cD hm (.t rfl) (fun hp4 hm => ?_) (fun hp4 hm => ?_)
  ·refine Aw <| Ao rfl (.assign .i64) <| Ao rfl (.assign .i64) <| WL.ns ?_
   have hr := Si hm
   clear hm
   subst hr
   exact W.ret2 k rfl rfl (.t rfl) (.t rfl) ⟨rfl, rfl, ⟨rfl, rfl, trivial⟩⟩
  ·refine Aw <| Ao rfl (.ofOb (Op1.load (t := tOb b) ⟨Y29, Z29⟩ (.t rfl))) <| Ao rfl (.nilCheckB (.t rfl)) <| Ao rfl (.fieldAddrB (o := 0) Tryz.underlying56 rfl J26 (.t rfl) rfl) <| Ao rfl (.ofOT (Op1.loadBF (t := (tOT tS k)) (f := fun x : pagestore_Store => x.pages_) (u := s0_) 0 rfl ⟨ty26.agg, ty26.size⟩ (fpagestore_Store_k0_0 k) rfl (.t rfl))) <| Ao rfl (.lenL U26 (Opd.own (.t rfl))) <| Ao rfl (.geI (.t rfl) .i64) <| Ag rfl rfl <| An <| W.cD hm (.t rfl) (fun hp6 hm => ?_) (fun hp6 hm => ?_)
   ·refine Aw <| Ao rfl (.assign .i64) <| Ao rfl (.assign .i64) <| WL.ns ?_
    have hr := Si hm
    clear hm
    subst hr
    exact W.ret2 k rfl rfl (.t rfl) (.t rfl) ⟨rfl, rfl, ⟨rfl, rfl, trivial⟩⟩
   ·refine W.skip <| WN.block <| Aq <| Aw <| WL.opR rfl (OpR.alloc 6 ze3) fun b1 => WL.opU (OpR.storeB (b := b1) 6 Z3 (Cellable.is I6 (0 : Int)) rfl (.t rfl) .i64) fun _ => Ar <| Ao rfl (.ofOb (Op1.load (t := tOb b) ⟨Y29, Z29⟩ (.t rfl))) <| Ao rfl (.makeClo (Cs := [((tOb b).ptr ()), (Bp b1 0), (tS.ptr text)]) (cap := [.tmp 2, .tmp 6, .tmp 3]) ⟨(.t rfl), (.t rfl), (.t rfl), trivial⟩) ?_
    obtain ⟨⟨burn, s0_1, n0_⟩, hv7, hm⟩ := Bs hm
    dsimp only at hm
    refine WL.weakR (res' := [(0, (Bx 5 true 56 ((tpagestore_Store_k0 k).is s0_) b)), (1000000, Dec.Own tS 9 k s0_.pages_.length), (6, (Bx 1 false 3 (I6.is (0 : Int)) b1))]) ⟨rfl, rfl, ⟨rfl, rfl, ⟨rfl, rfl, trivial⟩⟩⟩ <| WL.opR rfl (OpR.call (us := [0, 1000000, 6]) (A := fun kx : Tok => (I6.is burn)) C38 (FSpecR.keys (rin' := [(0, (Bx 5 true 56 ((tpagestore_Store_k0 k).is s0_) b)), (1000000, Dec.Own tS 9 k s0_.pages_.length), (6, (Bx 1 false 3 (I6.is (0 : Int)) b1))]) (out' := fun kx : Tok => [(0, (Bx 5 true 56 ((tpagestore_Store_k0 kx).is s0_1) b)), (1000000, Dec.Own tS 9 kx s0_1.pages_.length), (6, (Bx 1 false 3 (I6.is n0_) b1))]) (pagestore_Store_burn_i0_spec _ _ _ _ _ _ _ hv7) rfl (fun _ => rfl)) rfl ⟨(.t rfl), (.t rfl), trivial⟩) fun k1 => Ag rfl rfl <| Ar <| Ao rfl (.loadB 6 Y3 Z3 rfl (.t rfl)) <| Am rfl rfl <| Ag rfl rfl <| Ag rfl rfl <| WL.ns ?_
    have hr := Si hm
    clear hm
    subst hr
    exact W.ret2 k1 rfl rfl (.t rfl) (.t rfl) ⟨rfl, rfl, ⟨rfl, rfl, trivial⟩⟩
theorem journal_Journal_Append_spec (n : Nat) (j : journal_Journal) (st : pagestore_Store) (text : Str) (b : Nat) (k : Tok) (b1 : Nat) (k1 : Tok) (r : (Int × Int) × journal_Journal × pagestore_Store) (hm : M.journal_Journal_Append n j st text = some r) : FSpecR Tryz.prog 16 [(Bp b 0), (tS.is text)] [(0, (Bx 5 true 60 ((tMap (tP (tOb b1) (tP (tOT tS k) (tP I6 (tOne tjournal_mark)))) (fun x : journal_Journal => (x.Store, x.texts_, x.lasting_, x.last_))).is j) b)), (1000000, Dec.Own tS 9 k j.texts_.length), (400000, (Bx 5 true 56 ((tpagestore_Store_k0 k1).is st) b1)), (1400000, Dec.Own tS 9 k1 st.pages_.length), (700003, GlT Tryz.prog "internal/strconv.uint64pow10" .u64 Lib.pow10Tab), (700007, Gl (tA 64 (tI .u8)) 7 gv7)] (fun kx : (Tok) × (Tok) => (Asn.tuple2 (I6.is r.1.1) (I6.is r.1.2))) (fun kx : (Tok) × (Tok) => [(0, (Bx 5 true 60 ((tMap (tP (tOb b1) (tP (tOT tS (kx.1)) (tP I6 (tOne tjournal_mark)))) (fun x : journal_Journal => (x.Store, x.texts_, x.lasting_, x.last_))).is r.2.1) b)), (1000000, Dec.Own tS 9 (kx.1) r.2.1.texts_.length), (400000, (Bx 5 true 56 ((tpagestore_Store_k0 (kx.2)).is r.2.2) b1)), (1400000, Dec.Own tS 9 (kx.2) r.2.2.pages_.length), (700003, GlT Tryz.prog "internal/strconv.uint64pow10" .u64 Lib.pow10Tab), (700007, Gl (tA 64 (tI .u8)) 7 gv7)]) := by
 unfold M.journal_Journal_Append at hm
 refine FSpecR.of Tryz.func16 rfl rfl rfl fun g0 => Aw <| Ao rfl (.assign .i64) <| Ao rfl (.assign .i64) <| Ar <| WL.mv rfl rfl ?_
 obtain ⟨cut, hv1, hm⟩ := Bs hm
 refine Ao rfl (.call C33 (journal_cut_spec _ _ _ hv1) ⟨(.t rfl), trivial⟩) <| Ag rfl rfl <| An <| W.seq <| Aw <| Am rfl rfl <| Ao rfl (.lenL U26 (.t rfl)) <| Ao rfl (.eqI (.t rfl) .i64) <| An <| W.cD hm (.t rfl) (fun hp3 hm => ?_) (fun hp3 hm => ?_)
 ·refine Aw <| Ao rfl (.assign .i64) <| Ao rfl (.assign .i64) <| WL.ns ?_
  have hr := Si hm
  clear hm
  subst hr
  exact W.ret2 (k, k1) rfl rfl (.t rfl) (.t rfl) ⟨rfl, rfl, ⟨rfl, rfl, ⟨rfl, rfl, ⟨rfl, rfl, ⟨rfl, rfl, ⟨rfl, rfl, trivial⟩⟩⟩⟩⟩⟩
 ·refine W.skip <| Aq <| Aw <| Am rfl rfl <| Ao rfl (.nilCheckB (.t rfl)) <| Ao rfl (.fieldAddrB (o := 0) Tryz.underlying60 rfl J58 (.t rfl) rfl) <| Ao rfl (.loadBF (s := (tMap (tP (tOb b1) (tP (tOT tS k) (tP I6 (tOne tjournal_mark)))) (fun x : journal_Journal => (x.Store, x.texts_, x.lasting_, x.last_)))) (t := tjournal_mark) (f := fun x : journal_Journal => x.last_) (u := j) 0 rfl ⟨ty58.agg, ty58.size⟩ ((Fld.map (m := (fun x : journal_Journal => (x.Store, x.texts_, x.lasting_, x.last_))) (Fld.next (s := (tOb b1)) (Fld.next (s := (tOT tS k)) (Fld.next (s := I6) (Fld.one tjournal_mark))))).cast rfl rfl) rfl (.t rfl)) <| WL.opR rfl (OpR.alloc 7 ze58) fun b2 => WL.opU (OpR.storeB (b := b2) 7 Z58 (Cellable.is tjournal_mark j.last_) rfl (.t rfl) (.t rfl)) fun _ => An <| W.seq <| Aw <| Am rfl rfl <| Ao rfl (.lenL U26 (.t rfl)) <| Ao rfl (.move .i64) <| WL.ns ?_
  refine W.block ?_
  obtain ⟨s4, hs5, hk6⟩ := Bs hm
  clear hm
  refine W.loop (fun m (s : Int × List Str × List Str × ((journal_mark × pagestore_Store) × Tok)) => m = s.2.2.1.length ∧ cut = s.2.1 ++ s.2.2.1 ∧ s.1 = (s.2.1.length : Int) ∧ M.journal_Journal_Append_loop1 n j cut s.2.2.1 s.1 s.2.2.2.1.1 s.2.2.2.1.2 = some s4) (fun s => [(26, (I6.is s.1)), (0, (Bp b 0)), (1, (tS.is text)), (6, ((tL tS).is cut)), (7, (Bp b2 0)), (24, ((tL tS).is cut)), (25, (I6.is (cut.length : Int)))]) (fun s => [(1400000, Dec.Own tS 9 s.2.2.2.2 s.2.2.2.1.2.pages_.length), (1000000, Dec.Own tS 9 k j.texts_.length), (7, (Bx 2 true 58 (tjournal_mark.is s.2.2.2.1.1) b2)), (400000, (Bx 5 true 56 ((tpagestore_Store_k0 s.2.2.2.2).is s.2.2.2.1.2) b1)), (0, (Bx 5 true 60 ((tMap (tP (tOb b1) (tP (tOT tS k) (tP I6 (tOne tjournal_mark)))) (fun x : journal_Journal => (x.Store, x.texts_, x.lasting_, x.last_))).is j) b)), (700003, GlT Tryz.prog "internal/strconv.uint64pow10" .u64 Lib.pow10Tab), (700007, Gl (tA 64 (tI .u8)) 7 gv7)]) cut.length ((0 : Int), [], cut, ((j.last_, st), k1)) ⟨rfl, rfl, rfl, hs5⟩ ⟨.q rfl, .q rfl, .q rfl, .q rfl, .q rfl, .q rfl, .q rfl, trivial⟩ ⟨rfl, rfl, ⟨rfl, rfl, ⟨rfl, rfl, ⟨rfl, rfl, ⟨rfl, rfl, ⟨rfl, rfl, ⟨rfl, rfl, trivial⟩⟩⟩⟩⟩⟩⟩ ?_
  rintro m ⟨i, pre, rest1, ⟨⟨m0_, v⟩, k2⟩⟩ ⟨hn10, hxs7, hi8, hm⟩
  try dsimp only at hn10 hxs7 hi8 hm
  change W _ _ _ _ _ _ _ [(26, (I6.is i)), (0, (Bp b 0)), (1, (tS.is text)), (6, ((tL tS).is cut)), (7, (Bp b2 0)), (24, ((tL tS).is cut)), (25, (I6.is (cut.length : Int)))] [(1400000, Dec.Own tS 9 k2 v.pages_.length), (1000000, Dec.Own tS 9 k j.texts_.length), (7, (Bx 2 true 58 (tjournal_mark.is m0_) b2)), (400000, (Bx 5 true 56 ((tpagestore_Store_k0 k2).is v) b1)), (0, (Bx 5 true 60 ((tMap (tP (tOb b1) (tP (tOT tS k) (tP I6 (tOne tjournal_mark)))) (fun x : journal_Journal => (x.Store, x.texts_, x.lasting_, x.last_))).is j) b)), (700003, GlT Tryz.prog "internal/strconv.uint64pow10" .u64 Lib.pow10Tab), (700007, Gl (tA 64 (tI .u8)) 7 gv7)]
  refine W.lenL (s := 24) (.t rfl) fun hlen9 => Aw <| Ao rfl (.ltI (.t rfl) (.t rfl)) <| An <| W.seq <| W.cond (.t rfl) (fun hc12 => ?_) (fun hc12 => ?_)
  ·have hp13 := of_decide_eq_true hc12
   obtain ⟨e, es, hrest15⟩ := range_more hxs7 hi8 hp13
   subst hrest15
   rw [M.journal_Journal_Append_loop1.eq_2] at hm
   refine W.skip <| Aq <| W.seq <| W.block <| Aw <| Am rfl rfl <| Ao rfl (.idxPre hxs7 hi8 U26 Z9 (.t rfl) (.t rfl)) <| Ao rfl (.load ty9 (.t rfl)) <| Ag rfl rfl <| Ag rfl rfl <| Ar <| Ao rfl (.assign (.str rfl (by decide))) <| WL.ns ?_
   obtain ⟨s16, hs17, hk18⟩ := Bs hm
   clear hm
   refine W.join (fun s : Str => s = s16) (fun s => [(10, (tS.is s)), (0, (Bp b 0)), (1, (tS.is text)), (6, ((tL tS).is cut)), (7, (Bp b2 0)), (9, (tS.is e)), (24, ((tL tS).is cut)), (25, (I6.is (cut.length : Int))), (26, (I6.is i))]) (fun s => [(1000000, Dec.Own tS 9 k j.texts_.length), (1400000, Dec.Own tS 9 k2 v.pages_.length), (0, (Bx 5 true 60 ((tMap (tP (tOb b1) (tP (tOT tS k) (tP I6 (tOne tjournal_mark)))) (fun x : journal_Journal => (x.Store, x.texts_, x.lasting_, x.last_))).is j) b)), (7, (Bx 2 true 58 (tjournal_mark.is m0_) b2)), (400000, (Bx 5 true 56 ((tpagestore_Store_k0 k2).is v) b1)), (700003, GlT Tryz.prog "internal/strconv.uint64pow10" .u64 Lib.pow10Tab), (700007, Gl (tA 64 (tI .u8)) 7 gv7)]) ?_ ?_
   ·rintro sign hj27
    try dsimp only at hj27
    subst hj27
    have hm := hk18
    clear hk18
    try dsimp only at hm
    change W _ _ _ _ _ _ _ [(10, (tS.is sign)), (0, (Bp b 0)), (1, (tS.is text)), (6, ((tL tS).is cut)), (7, (Bp b2 0)), (9, (tS.is e)), (24, ((tL tS).is cut)), (25, (I6.is (cut.length : Int))), (26, (I6.is i))] [(1000000, Dec.Own tS 9 k j.texts_.length), (1400000, Dec.Own tS 9 k2 v.pages_.length), (0, (Bx 5 true 60 ((tMap (tP (tOb b1) (tP (tOT tS k) (tP I6 (tOne tjournal_mark)))) (fun x : journal_Journal => (x.Store, x.texts_, x.lasting_, x.last_))).is j) b)), (7, (Bx 2 true 58 (tjournal_mark.is m0_) b2)), (400000, (Bx 5 true 56 ((tpagestore_Store_k0 k2).is v) b1)), (700003, GlT Tryz.prog "internal/strconv.uint64pow10" .u64 Lib.pow10Tab), (700007, Gl (tA 64 (tI .u8)) 7 gv7)]
    refine Aw <| Ao rfl (.loadB 7 Y58 Z58 rfl (.t rfl)) <| Am rfl rfl <| WL.mv rfl rfl ?_
    obtain ⟨page, hv22, hm⟩ := Bs hm
    refine Ao rfl (.callG (rin := [(700003, GlT Tryz.prog "internal/strconv.uint64pow10" .u64 Lib.pow10Tab), (700007, Gl (tA 64 (tI .u8)) 7 gv7)]) C34 (journal_page_spec _ _ _ _ _ hv22) ⟨rfl, rfl, trivial⟩ ⟨rfl, rfl, ⟨rfl, rfl, trivial⟩⟩ ⟨(.t rfl), (.t rfl), (.t rfl), trivial⟩) <| Am rfl rfl <| Ao rfl (.extract0 (.t rfl)) <| Ao rfl (.extract1 (.t rfl)) <| Ag rfl rfl <| Ag rfl rfl <| Ar <| Am rfl rfl <| Ao rfl (.nilCheckB (.t rfl)) <| Ao rfl (.fieldAddrB (o := 0) Tryz.underlying60 rfl J29 (.t rfl) rfl) <| Ao rfl (.ofOb (Op1.loadBF (s := (tMap (tP (tOb b1) (tP (tOT tS k) (tP I6 (tOne tjournal_mark)))) (fun x : journal_Journal => (x.Store, x.texts_, x.lasting_, x.last_)))) (t := (tOb b1)) (f := fun x : journal_Journal => x.Store) (u := j) 0 rfl ⟨Y29, Z29⟩ ((Fld.map (m := (fun x : journal_Journal => (x.Store, x.texts_, x.lasting_, x.last_))) (Fld.here (tOb b1) (tP (tOT tS k) (tP I6 (tOne tjournal_mark))))).cast rfl rfl) rfl (.t rfl))) <| WL.mv rfl rfl ?_
    obtain ⟨⟨append, w⟩, hv23, hm⟩ := Bs hm
    dsimp only at hm
    refine WL.weakR (res' := [(400000, (Bx 5 true 56 ((tpagestore_Store_k0 k2).is v) b1)), (1400000, Dec.Own tS 9 k2 v.pages_.length), (1000000, Dec.Own tS 9 k j.texts_.length), (0, (Bx 5 true 60 ((tMap (tP (tOb b1) (tP (tOT tS k) (tP I6 (tOne tjournal_mark)))) (fun x : journal_Journal => (x.Store, x.texts_, x.lasting_, x.last_))).is j) b)), (7, (Bx 2 true 58 (tjournal_mark.is m0_) b2)), (700003, GlT Tryz.prog "internal/strconv.uint64pow10" .u64 Lib.pow10Tab), (700007, Gl (tA 64 (tI .u8)) 7 gv7)]) ⟨rfl, rfl, ⟨rfl, rfl, ⟨rfl, rfl, ⟨rfl, rfl, ⟨rfl, rfl, ⟨rfl, rfl, ⟨rfl, rfl, trivial⟩⟩⟩⟩⟩⟩⟩ <| WL.opR rfl (OpR.call (us := [400000, 1400000]) (A := fun kx : Tok => (Asn.tuple2 (I6.is append.1) (I6.is append.2))) C30 (FSpecR.keys (rin' := [(400000, (Bx 5 true 56 ((tpagestore_Store_k0 k2).is v) b1)), (1400000, Dec.Own tS 9 k2 v.pages_.length)]) (out' := fun kx : Tok => [(400000, (Bx 5 true 56 ((tpagestore_Store_k0 kx).is w) b1)), (1400000, Dec.Own tS 9 kx w.pages_.length)]) (pagestore_Store_Append_spec _ _ _ _ _ hv23) rfl (fun _ => rfl)) rfl ⟨(.t rfl), (.t rfl), trivial⟩) fun k3 => Am rfl rfl <| Ao rfl (.extract0 (.t rfl)) <| Ao rfl (.extract1 (.t rfl)) <| Ag rfl rfl <| Ag rfl rfl <| An <| W.seq <| Aw <| Am rfl rfl <| Ao rfl (.neI (.t rfl) .i64) <| An <| W.cD hm (.t rfl) (fun hp25 hm => ?_) (fun hp25 hm => ?_)
    ·refine Aw <| Am rfl rfl <| Ao rfl (.assign .i64) <| Ag rfl rfl <| WL.ns ?_
     have hr26 := Si hm
     clear hm
     subst hr26
     have hm := hk6
     try dsimp only at hm
     have hr := Si hm
     clear hm
     subst hr
     exact W.ret2 (k, k3) rfl rfl (.t rfl) (.t rfl) ⟨rfl, rfl, ⟨rfl, rfl, ⟨rfl, rfl, ⟨rfl, rfl, ⟨rfl, rfl, ⟨rfl, rfl, trivial⟩⟩⟩⟩⟩⟩
    ·exact W.skip <| Aq <| W.region <| Am rfl rfl <| Am rfl rfl <| Ao rfl (.build (s := tjournal_mark) (x := (⟨append.1, page.2⟩ : journal_mark)) zjournal_mark_f rfl Tryz.underlying58 (zjournal_mark_sz _ Tryz.underlying58) ze58 ⟨_, I6, append.1, _, _, rfl, Z3, (.t rfl), sjournal_mark_0, ⟨_, tS, page.2, _, _, rfl, Z9, (.t rfl), sjournal_mark_1, rfl⟩⟩) <| WL.opU (OpR.storeB (b := b2) 7 Z58 (Cellable.is tjournal_mark (⟨append.1, page.2⟩ : journal_mark)) rfl (.t rfl) (.t rfl)) fun _ => WL.nil <| WN.block <| Aq <| W.region <| Ao rfl (.addI (.t rfl) .i64 (range_inR hi8 hp13 hlen9)) <| Am rfl rfl <| WL.nil <| WN.again es.length (i + 1, pre ++ [e], es, (((⟨append.1, page.2⟩ : journal_mark), w), k3)) (range_lt hn10) ⟨rfl, range_step hxs7, range_idx hi8, hm⟩ ⟨.q rfl, .q rfl, .q rfl, .q rfl, .q rfl, .q rfl, .q rfl, trivial⟩ ⟨rfl, rfl, ⟨rfl, rfl, ⟨rfl, rfl, ⟨rfl, rfl, ⟨rfl, rfl, ⟨rfl, rfl, ⟨rfl, rfl, trivial⟩⟩⟩⟩⟩⟩⟩
   ·have hm := hs17
    clear hs17
    refine Aw <| Am rfl rfl <| Am rfl rfl <| Ao rfl (.lenL U26 (.t rfl)) ?_
    obtain ⟨v1, hv19, hm⟩ := Bs hm
    refine Ao rfl (.subC hv19 (.t rfl) .i64) <| Ao rfl (.eqI (.t rfl) (.t rfl)) <| An <| W.cD hm (.t rfl) (fun hp21 hm => ?_) (fun hp21 hm => ?_)
    ·exact W.region <| Ao rfl (.assign (.str rfl (by decide))) <| WL.nil <| WN.meet ([46] : Str) (Si hm) ⟨.q rfl, .q rfl, .q rfl, .q rfl, .q rfl, .q rfl, .q rfl, .q rfl, .q rfl, trivial⟩ ⟨rfl, rfl, ⟨rfl, rfl, ⟨rfl, rfl, ⟨rfl, rfl, ⟨rfl, rfl, ⟨rfl, rfl, ⟨rfl, rfl, trivial⟩⟩⟩⟩⟩⟩⟩
    ·exact W.skip <| WN.meet ([43] : Str) (Si hm) ⟨.q rfl, .q rfl, .q rfl, .q rfl, .q rfl, .q rfl, .q rfl, .q rfl, .q rfl, trivial⟩ ⟨rfl, rfl, ⟨rfl, rfl, ⟨rfl, rfl, ⟨rfl, rfl, ⟨rfl, rfl, ⟨rfl, rfl, ⟨rfl, rfl, trivial⟩⟩⟩⟩⟩⟩⟩
  ·have hrest15 := range_end hxs7 hi8 (of_decide_eq_false hc12)
   subst hrest15
   rw [M.journal_Journal_Append_loop1.eq_1] at hm
   refine W.exit rfl ?_
   have hr28 := Si hm
   clear hm
   subst hr28
   have hm := hk6
   try dsimp only at hm
   refine Aq <| Aw <| Am rfl rfl <| Ao rfl (.loadB 7 Y58 Z58 rfl (.t rfl)) <| Ao rfl (.nilCheckB (.t rfl)) <| Ao rfl (.fieldAddrB (o := 0) Tryz.underlying60 rfl J58 (.t rfl) rfl) <| WL.opU (OpR.storeBF (b := b) (s := (tMap (tP (tOb b1) (tP (tOT tS k) (tP I6 (tOne tjournal_mark)))) (fun x : journal_Journal => (x.Store, x.texts_, x.lasting_, x.last_)))) 0 rfl ty58 ((FldSet.map (m := (fun x : journal_Journal => (x.Store, x.texts_, x.lasting_, x.last_))) (f' := fun x y => { x with last_ := y }) (FldSet.next (s := (tOb b1)) (FldSet.next (s := (tOT tS k)) (FldSet.next (s := I6) (FldSet.one tjournal_mark)))) (fun _ _ => rfl)).cast rfl rfl) rfl (show 3 + 2 ≤ 5 by decide) (.t rfl) (.t rfl)) fun _ => Ar <| Am rfl rfl <| Am rfl rfl <| Ao rfl (.nilCheckB (.t rfl)) <| Ao rfl (.fieldAddrB (o := 0) Tryz.underlying60 rfl J26 (.t rfl) rfl) <| Ao rfl (.ofOT (Op1.loadBF (s := (tMap (tP (tOb b1) (tP (tOT tS k) (tP I6 (tOne tjournal_mark)))) (fun x : journal_Journal => (x.Store, x.texts_, x.lasting_, x.last_)))) (t := (tOT tS k)) (f := fun x : journal_Journal => x.texts_) (u := ({ j with last_ := m0_ } : journal_Journal)) 0 rfl ⟨ty26.agg, ty26.size⟩ ((Fld.map (m := (fun x : journal_Journal => (x.Store, x.texts_, x.lasting_, x.last_))) (Fld.next (s := (tOb b1)) (Fld.here (tOT tS k) (tP I6 (tOne tjournal_mark))))).cast rfl rfl) rfl (.t rfl))) <| Am rfl rfl <| Ao rfl (.buildSlice (n := 1) (ys := [(0, text)]) (z := ([] : Str)) (xs := [text]) U26 el9 ze9 ⟨rfl, (.t rfl), trivial⟩ (by simp) (by decide) rfl) ?_
   obtain ⟨out, hv29, hm⟩ := Bs hm
   refine WL.opR rfl (OpR.appC (key := 1000000) hv29 U26 el9 (.t rfl) (.t rfl) rfl) fun k4 => Ao rfl (.nilCheckB (.t rfl)) <| Ao rfl (.fieldAddrB (o := 0) Tryz.underlying60 rfl J26 (.t rfl) rfl) <| WL.opU (OpR.storeBFT (b := b) (s := (tMap (tP (tOb b1) (tP (tOT tS k) (tP I6 (tOne tjournal_mark)))) (fun x : journal_Journal => (x.Store, x.texts_, x.lasting_, x.last_)))) (s' := (tMap (tP (tOb b1) (tP (tOT tS k4) (tP I6 (tOne tjournal_mark)))) (fun x : journal_Journal => (x.Store, x.texts_, x.lasting_, x.last_)))) (t := (tOT tS k4)) 0 rfl rfl ⟨ty26.agg, ty26.size⟩ ((FldSetT.map (m := (fun x : journal_Journal => (x.Store, x.texts_, x.lasting_, x.last_))) (f' := fun x y => { x with texts_ := y }) (FldSetT.next (s := (tOb b1)) (FldSetT.here (tOT tS k) (tOT tS k4) (tP I6 (tOne tjournal_mark)) rfl)) (fun _ _ => rfl)).cast rfl rfl) rfl (show 1 + 1 ≤ 5 by decide) (.t rfl) (Opd.toOT (.t rfl))) fun _ => Ar <| Am rfl rfl <| Ao rfl (.nilCheckB (.t rfl)) <| Ao rfl (.fieldAddrB (o := 0) Tryz.underlying60 rfl J26 (.t rfl) rfl) <| Ao rfl (.ofOT (Op1.loadBF (s := (tMap (tP (tOb b1) (tP (tOT tS k4) (tP I6 (tOne tjournal_mark)))) (fun x : journal_Journal => (x.Store, x.texts_, x.lasting_, x.last_)))) (t := (tOT tS k4)) (f := fun x : journal_Journal => x.texts_) (u := ({ ({ j with last_ := m0_ } : journal_Journal) with texts_ := out } : journal_Journal)) 0 rfl ⟨ty26.agg, ty26.size⟩ ((Fld.map (m := (fun x : journal_Journal => (x.Store, x.texts_, x.lasting_, x.last_))) (Fld.next (s := (tOb b1)) (Fld.here (tOT tS k4) (tP I6 (tOne tjournal_mark))))).cast rfl rfl) rfl (.t rfl))) <| Ao rfl (.lenL U26 (Opd.own (.t rfl))) ?_
   obtain ⟨v2, hv30, hm⟩ := Bs hm
   refine Ao rfl (.subC hv30 (.t rfl) .i64) <| Ag rfl rfl <| Ao rfl (.assign .i64) <| WL.ns ?_
   have hr := Si hm
   clear hm
   subst hr
   exact W.ret2 (k4, k2) rfl rfl (.t rfl) (.t rfl) ⟨rfl, rfl, ⟨rfl, rfl, ⟨rfl, rfl, ⟨rfl, rfl, ⟨rfl, rfl, ⟨rfl, rfl, trivial⟩⟩⟩⟩⟩⟩
theorem pagestore_Store_SetRoot_1_spec (c : Int) (c1 : pagestore_Store) (b : Nat) (k : Tok) (r : pagestore_Store) (hm : M.pagestore_Store_SetRoot_1 c c1 = some r) : FSpecR Tryz.prog 41 [(I6.ptr c), ((tOb b).ptr ())] [(1, (Bx 5 true 56 ((tpagestore_Store_k0 k).is c1) b)), (1000001, Dec.Own tS 9 k c1.pages_.length)] (fun kx : Tok => (Asn.eq (.tuple #[]))) (fun kx : Tok => [(1, (Bx 5 true 56 ((tpagestore_Store_k0 kx).is r) b)), (1000001, Dec.Own tS 9 kx r.pages_.length)]) := by
 unfold M.pagestore_Store_SetRoot_1 at hm
 refine FSpecR.of Tryz.func41 rfl rfl rfl fun g0 => W.weakR (res' := [(1000001, Dec.Own tS 9 k c1.pages_.length), (1, (Bx 5 true 56 ((tpagestore_Store_k0 k).is c1) b))]) ⟨rfl, rfl, ⟨rfl, rfl, trivial⟩⟩ <| W.drawM [.c (Bp b 0), .c (Bp b 0), .c (I6.is c), .c (Bp b 0), .c (Bp b 0), .c (Bp b 0), .c (tO tS k c1.pages_), .c (I6.is (c1.pages_.length : Int)), .c (Bp b 0), .c (Bp b 2), .c Asn.any, .c (Bp b 0), .c (Bp b 1), .c Asn.any] [([], [1]), ([], [1]), ([], [0]), ([], [1]), ([3], []), ([4], []), ([5], []), ([6], []), ([0], []), ([8], []), ([2, 9], []), ([1], []), ([11], []), ([7, 12], [])] [10, 13] [[], [], [], [], [], [], [], [], [], [], [], [], [], []] (fun m cv => match m with | 0 => [(1000001, Dec.Own tS 9 k c1.pages_.length), (1, (Bx 5 true 56 ((tpagestore_Store_k0 k).is c1) b))] | 1 => [(1, (Bx 5 true 56 ((tpagestore_Store_k0 k).is ({ c1 with root_ := c } : pagestore_Store)) b)), (1000001, Dec.Own tS 9 k c1.pages_.length)] | _ => [(1, (Bx 5 true 56 ((tpagestore_Store_k0 k).is ({ ({ c1 with root_ := c } : pagestore_Store) with lasting_ := (c1.pages_.length : Int) } : pagestore_Store)) b)), (1000001, Dec.Own tS 9 k c1.pages_.length)]) (fun _ => none) Mx rfl rfl rfl rfl rfl ⟨fun _ _ _ _ => rfl, ⟨fun _ _ _ _ => rfl, ⟨fun _ _ _ _ => rfl, ⟨fun _ _ _ _ => rfl, ⟨fun _ _ _ _ => rfl, ⟨fun _ _ _ _ => rfl, ⟨fun _ _ _ _ => rfl, ⟨fun _ _ _ _ => rfl, ⟨fun _ _ _ _ => rfl, ⟨fun _ _ _ _ => rfl, ⟨fun _ _ _ _ => rfl, ⟨fun _ _ _ _ => rfl, ⟨fun _ _ _ _ => rfl, ⟨fun _ _ _ _ => rfl, trivial⟩⟩⟩⟩⟩⟩⟩⟩⟩⟩⟩⟩⟩⟩ rfl ⟨mo fun cv => Op1.ofOb (Op1.load (t := tOb b) ⟨Y29, Z29⟩ (.t rfl)), ⟨mo fun cv => Op1.ofOb (Op1.load (t := tOb b) ⟨Y29, Z29⟩ (.t rfl)), ⟨mo fun cv => Op1.load ty3 (.t rfl), ⟨mo fun cv => Op1.ofOb (Op1.load (t := tOb b) ⟨Y29, Z29⟩ (.t rfl)), ⟨mo fun cv => Op1.nilCheckB (.t rfl), ⟨mo fun cv => Op1.fieldAddrB (o := 0) Tryz.underlying56 rfl J26 (.t rfl) rfl, ⟨.inr ⟨fun cv => [(1, (Bx 5 true 56 ((tpagestore_Store_k0 k).is c1) b))], (AllUpTo.at ⟨⟨(fun _ _ => ⟨rfl, rfl, trivial⟩), (fun hw => absurd hw (by decide))⟩, (fun hw => absurd hw (by decide))⟩), fun cv => Op1.ofOT (Op1.loadBF (t := (tOT tS k)) (f := fun x : pagestore_Store => x.pages_) (u := c1) 1 rfl ⟨ty26.agg, ty26.size⟩ (fpagestore_Store_k0_0 k) rfl (.t rfl))⟩, ⟨mo fun cv => Op1.lenL U26 (Opd.own (.t rfl)), ⟨mo fun cv => Op1.nilCheckB (.t rfl), ⟨mo fun cv => Op1.fieldAddrB (o := 0) Tryz.underlying56 rfl J3 (.t rfl) rfl, ⟨.inl rfl, ⟨mo fun cv => Op1.nilCheckB (.t rfl), ⟨mo fun cv => Op1.fieldAddrB (o := 0) Tryz.underlying56 rfl J3 (.t rfl) rfl, ⟨.inl rfl, trivial⟩⟩⟩⟩⟩⟩⟩⟩⟩⟩⟩⟩⟩⟩ ⟨⟨_, _, _, [1], (fun cv => [(1, (Bx 5 true 56 ((tpagestore_Store_k0 k).is ({ c1 with root_ := c } : pagestore_Store)) b))]), rfl, rfl, rfl, rfl, fun _ => rfl, fun _ _ => rfl, fun cv => OpR.viaU (OpR.storeBF (b := b) 1 rfl ty3 (spagestore_Store_k0_2 k) rfl (show 2 + 1 ≤ 5 by decide) (.t rfl) (.t rfl))⟩, ⟨⟨_, _, _, [1], (fun cv => [(1, (Bx 5 true 56 ((tpagestore_Store_k0 k).is ({ ({ c1 with root_ := c } : pagestore_Store) with lasting_ := (c1.pages_.length : Int) } : pagestore_Store)) b))]), rfl, rfl, rfl, rfl, fun _ => rfl, fun _ _ => rfl, fun cv => OpR.viaU (OpR.storeBF (b := b) 1 rfl ty3 (spagestore_Store_k0_1 k) rfl (show 1 + 1 ≤ 5 by decide) (.t rfl) (.t rfl))⟩, trivial⟩⟩ (fun cv => ?_)
 have hr := Si hm
 clear hm
 subst hr
 exact WN.fin k rfl (fun _ => rfl) ⟨rfl, rfl, ⟨rfl, rfl, trivial⟩⟩
theorem pagestore_Store_burn_i1_spec (s0_ : pagestore_Store) (c : Int) (b : Nat) (k : Tok) (r : Int × pagestore_Store) (hm : M.pagestore_Store_burn_i1 s0_ c = some r) : FSpecR Tryz.prog 38 [(Bp b 0), (cloA 41 [(I6.ptr c), ((tOb b).ptr ())])] [(0, (Bx 5 true 56 ((tpagestore_Store_k0 k).is s0_) b)), (1000000, Dec.Own tS 9 k s0_.pages_.length)] (fun kx : Tok => (I6.is r.1)) (fun kx : Tok => [(0, (Bx 5 true 56 ((tpagestore_Store_k0 kx).is r.2) b)), (1000000, Dec.Own tS 9 kx r.2.pages_.length)]) := by
 unfold M.pagestore_Store_burn_i1 at hm
 refine FSpecR.of Tryz.func38 rfl rfl rfl fun g0 => Aw <| Ao rfl (.assign .i64) <| An <| W.seq <| Aw <| Am rfl rfl <| Ao rfl (.nilCheckB (.t rfl)) <| Ao rfl (.fieldAddrB (o := 0) Tryz.underlying56 rfl J3 (.t rfl) rfl) <| Ao rfl (.loadBF 0 rfl ty3 (fpagestore_Store_k0_3 k) rfl (.t rfl)) <| Ao rfl (.eqI (.t rfl) .i64) <| An <| W.cD hm (.t rfl) (fun hp2 hm => ?_) (fun hp2 hm => ?_)
 ·refine Aw <| Am rfl rfl <| Ao rfl (.nilCheckB (.t rfl)) <| Ao rfl (.fieldAddrB (o := 0) Tryz.underlying56 rfl J4 (.t rfl) rfl) <| WL.opU (OpR.storeBF (b := b) 0 rfl ty4 (spagestore_Store_k0_4 k) rfl (show 4 + 1 ≤ 5 by decide) (.t rfl) .bool) fun _ => Ar <| Ao rfl (.assign .i64) <| WL.ns ?_
  have hr := Si hm
  clear hm
  subst hr
  exact W.ret1 k rfl (.t rfl) ⟨rfl, rfl, ⟨rfl, rfl, trivial⟩⟩
 ·refine W.skip <| WN.seq ?_
  obtain ⟨s3, hs4, hk5⟩ := Bs hm
  clear hm
  refine W.join (fun s : pagestore_Store × Tok => s.1 = s3) (fun s => [(1, (cloA 41 [(I6.ptr c), ((tOb b).ptr ())]))]) (fun s => [(1000000, Dec.Own tS 9 s.2 s.1.pages_.length), (0, (Bx 5 true 56 ((tpagestore_Store_k0 s.2).is s.1) b))]) ?_ ?_
  ·rintro ⟨s0_1, k1⟩ hj10
   try dsimp only at hj10
   subst hj10
   have hm := hk5
   clear hk5
   try dsimp only at hm
   change W _ _ _ _ _ _ _ [(1, (cloA 41 [(I6.ptr c), ((tOb b).ptr ())]))] [(1000000, Dec.Own tS 9 k1 s0_1.pages_.length), (0, (Bx 5 true 56 ((tpagestore_Store_k0 k1).is s0_1) b))]
   refine Aw <| WL.mv rfl rfl ?_
   obtain ⟨s0_2, hv9, hm⟩ := Bs hm
   refine WL.weakR (res' := [(0, (Bx 5 true 56 ((tpagestore_Store_k0 k1).is s0_1) b)), (1000000, Dec.Own tS 9 k1 s0_1.pages_.length)]) ⟨rfl, rfl, ⟨rfl, rfl, trivial⟩⟩ <| WL.opR rfl (OpR.callClo (us := [0, 1000000]) (A := fun kx : Tok => (Asn.eq (.tuple #[]))) (As := []) C41 (.t rfl) (FSpecR.keys (rin' := [(0, (Bx 5 true 56 ((tpagestore_Store_k0 k1).is s0_1) b)), (1000000, Dec.Own tS 9 k1 s0_1.pages_.length)]) (out' := fun kx : Tok => [(0, (Bx 5 true 56 ((tpagestore_Store_k0 kx).is s0_2) b)), (1000000, Dec.Own tS 9 kx s0_2.pages_.length)]) (pagestore_Store_SetRoot_1_spec _ _ _ _ _ hv9) rfl (fun _ => rfl)) rfl trivial) fun k2 => Ar <| Ao rfl (.assign .i64) <| WL.ns ?_
   have hr := Si hm
   clear hm
   subst hr
   exact W.ret1 k2 rfl (.t rfl) ⟨rfl, rfl, ⟨rfl, rfl, trivial⟩⟩
  ·have hm := hs4
   clear hs4
   refine Aw <| Am rfl rfl <| Ao rfl (.nilCheckB (.t rfl)) <| Ao rfl (.fieldAddrB (o := 0) Tryz.underlying56 rfl J3 (.t rfl) rfl) <| Ao rfl (.loadBF 0 rfl ty3 (fpagestore_Store_k0_3 k) rfl (.t rfl)) <| Ao rfl (.gtI (.t rfl) .i64) <| An <| W.cD hm (.t rfl) (fun hp7 hm => ?_) (fun hp7 hm => ?_)
   ·refine W.region <| Am rfl rfl <| Ao rfl (.nilCheckB (.t rfl)) <| Ao rfl (.fieldAddrB (o := 0) Tryz.underlying56 rfl J3 (.t rfl) rfl) <| Ao rfl (.loadBF 0 rfl ty3 (fpagestore_Store_k0_3 k) rfl (.t rfl)) ?_
    obtain ⟨v, hv8, hm⟩ := Bs hm
    exact Ao rfl (.subC hv8 (.t rfl) .i64) <| Ao rfl (.nilCheckB (.t rfl)) <| Ao rfl (.fieldAddrB (o := 0) Tryz.underlying56 rfl J3 (.t rfl) rfl) <| WL.opU (OpR.storeBF (b := b) 0 rfl ty3 (spagestore_Store_k0_3 k) rfl (show 3 + 1 ≤ 5 by decide) (.t rfl) (.t rfl)) fun _ => WL.nil <| WN.meet (({ s0_ with fuse_ := v } : pagestore_Store), k) (Si hm) ⟨.q rfl, trivial⟩ ⟨rfl, rfl, ⟨rfl, rfl, trivial⟩⟩
   ·exact W.skip <| WN.meet (s0_, k) (Si hm) ⟨.q rfl, trivial⟩ ⟨rfl, rfl, ⟨rfl, rfl, trivial⟩⟩
theorem pagestore_Store_SetRoot_spec (s0_ : pagestore_Store) (page : Int) (b : Nat) (k : Tok) (r : Int × pagestore_Store) (hm : M.pagestore_Store_SetRoot s0_ page = some r) : FSpecR Tryz.prog 31 [(Bp b 0), (I6.is page)] [(0, (Bx 5 true 56 ((tpagestore_Store_k0 k).is s0_) b)), (1000000, Dec.Own tS 9 k s0_.pages_.length)] (fun kx : Tok => (I6.is r.1)) (fun kx : Tok => [(0, (Bx 5 true 56 ((tpagestore_Store_k0 kx).is r.2) b)), (1000000, Dec.Own tS 9 kx r.2.pages_.length)]) := by
 unfold M.pagestore_Store_SetRoot at hm
 refine FSpecR.of Tryz.func31 rfl rfl rfl fun g0 => Aw <| Ao rfl (.box (t := tOb b) (Opd.toOb (.t rfl))) <| Ao rfl (.box (.t rfl)) <| Ao rfl (.assign .i64) <| An <| W.seq <| W.block <| Aw <| Ao rfl (.ofOb (Op1.load (t := tOb b) ⟨Y29, Z29⟩ (.t rfl))) <| Ao rfl (.nilCheckB (.t rfl)) <| Ao rfl (.fieldAddrB (o := 0) Tryz.underlying56 rfl J4 (.t rfl) rfl) <| Ao rfl (.loadBF 0 rfl ty4 (fpagestore_Store_k0_4 k) rfl (.t rfl)) <| Ag rfl rfl <| An <| W.cB hm (.t rfl) (fun hp2 hm => ?_) (fun hp2 hm => ?_)
 ·refine Aw <| Ao rfl (.assign .i64) <| WL.ns ?_
  have hr := Si hm
  clear hm
  subst hr
  exact W.ret1 k rfl (.t rfl) ⟨rfl, rfl, ⟨rfl, rfl, trivial⟩⟩
 ·refine Aw <| Ao rfl (.ofOb (Op1.load (t := tOb b) ⟨Y29, Z29⟩ (.t rfl))) <| Ao rfl (.load ty3 (.t rfl)) ?_
  obtain ⟨there, hv3, hm⟩ := Bs hm
  refine WL.weakR (res' := [(0, (Bx 5 true 56 ((tpagestore_Store_k0 k).is s0_) b)), (1000000, Dec.Own tS 9 k s0_.pages_.length)]) ⟨rfl, rfl, ⟨rfl, rfl, trivial⟩⟩ <| WL.opR rfl (OpR.call (us := [0, 1000000]) (A := fun kx : Unit => (tB.is there)) C40 (FSpecR.keys (rin' := [(0, (Bx 5 true 56 ((tpagestore_Store_k0 k).is s0_) b)), (1000000, Dec.Own tS 9 k s0_.pages_.length)]) (out' := fun kx : Unit => [(0, (Bx 5 true 56 ((tpagestore_Store_k0 k).is s0_) b)), (1000000, Dec.Own tS 9 k s0_.pages_.length)]) (pagestore_Store_there_spec _ _ _ _ _ hv3) rfl (fun _ => rfl)) rfl ⟨(.t rfl), (.t rfl), trivial⟩) fun _ => Ao rfl (.notB (.t rfl)) <| Ag rfl rfl <| An <| W.cR hm (.t rfl) (fun hp5 hm => ?_) (fun hp5 hm => ?_)
  ·refine Aw <| Ao rfl (.assign .i64) <| WL.ns ?_
   have hr := Si hm
   clear hm
   subst hr
   exact W.ret1 k rfl (.t rfl) ⟨rfl, rfl, ⟨rfl, rfl, trivial⟩⟩
  ·refine W.skip <| WN.block <| Aq <| Aw <| Ao rfl (.ofOb (Op1.load (t := tOb b) ⟨Y29, Z29⟩ (.t rfl))) <| Ao rfl (.makeClo (Cs := [(I6.ptr page), ((tOb b).ptr ())]) (cap := [.tmp 3, .tmp 2]) ⟨(.t rfl), (.t rfl), trivial⟩) ?_
   obtain ⟨⟨burn, s0_1⟩, hv6, hm⟩ := Bs hm
   dsimp only at hm
   refine WL.weakR (res' := [(0, (Bx 5 true 56 ((tpagestore_Store_k0 k).is s0_) b)), (1000000, Dec.Own tS 9 k s0_.pages_.length)]) ⟨rfl, rfl, ⟨rfl, rfl, trivial⟩⟩ <| WL.opR rfl (OpR.call (us := [0, 1000000]) (A := fun kx : Tok => (I6.is burn)) C38 (FSpecR.keys (rin' := [(0, (Bx 5 true 56 ((tpagestore_Store_k0 k).is s0_) b)), (1000000, Dec.Own tS 9 k s0_.pages_.length)]) (out' := fun kx : Tok => [(0, (Bx 5 true 56 ((tpagestore_Store_k0 kx).is s0_1) b)), (1000000, Dec.Own tS 9 kx s0_1.pages_.length)]) (pagestore_Store_burn_i1_spec _ _ _ _ _ hv6) rfl (fun _ => rfl)) rfl ⟨(.t rfl), (.t rfl), trivial⟩) fun k1 => Ag rfl rfl <| WL.ns ?_
   have hr := Si hm
   clear hm
   subst hr
   exact W.ret1 k1 rfl (.t rfl) ⟨rfl, rfl, ⟨rfl, rfl, trivial⟩⟩
theorem journal_Journal_Commit_spec (j : journal_Journal) (st : pagestore_Store) (b : Nat) (k : Tok) (b1 : Nat) (k1 : Tok) (r : Int × journal_Journal × pagestore_Store) (hm : M.journal_Journal_Commit j st = some r) : FSpecR Tryz.prog 17 [(Bp b 0)] [(0, (Bx 5 true 60 ((tMap (tP (tOb b1) (tP (tOT tS k) (tP I6 (tOne tjournal_mark)))) (fun x : journal_Journal => (x.Store, x.texts_, x.lasting_, x.last_))).is j) b)), (1000000, Dec.Own tS 9 k j.texts_.length), (400000, (Bx 5 true 56 ((tpagestore_Store_k0 k1).is st) b1)), (1400000, Dec.Own tS 9 k1 st.pages_.length)] (fun kx : (Tok) × (Tok) => (I6.is r.1)) (fun kx : (Tok) × (Tok) => [(0, (Bx 5 true 60 ((tMap (tP (tOb b1) (tP (tOT tS (kx.1)) (tP I6 (tOne tjournal_mark)))) (fun x : journal_Journal => (x.Store, x.texts_, x.lasting_, x.last_))).is r.2.1) b)), (1000000, Dec.Own tS 9 (kx.1) r.2.1.texts_.length), (400000, (Bx 5 true 56 ((tpagestore_Store_k0 (kx.2)).is r.2.2) b1)), (1400000, Dec.Own tS 9 (kx.2) r.2.2.pages_.length)]) := by
 unfold M.journal_Journal_Commit at hm
 refine FSpecR.of Tryz.func17 rfl rfl rfl fun g0 => Aw <| Ao rfl (.assign .i64) <| An <| W.seq <| Aw <| Am rfl rfl <| Ao rfl (.nilCheckB (.t rfl)) <| Ao rfl (.fieldAddrB (o := 0) Tryz.underlying60 rfl J26 (.t rfl) rfl) <| Ao rfl (.ofOT (Op1.loadBF (s := (tMap (tP (tOb b1) (tP (tOT tS k) (tP I6 (tOne tjournal_mark)))) (fun x : journal_Journal => (x.Store, x.texts_, x.lasting_, x.last_)))) (t := (tOT tS k)) (f := fun x : journal_Journal => x.texts_) (u := j) 0 rfl ⟨ty26.agg, ty26.size⟩ ((Fld.map (m := (fun x : journal_Journal => (x.Store, x.texts_, x.lasting_, x.last_))) (Fld.next (s := (tOb b1)) (Fld.here (tOT tS k) (tP I6 (tOne tjournal_mark))))).cast rfl rfl) rfl (.t rfl))) <| Ao rfl (.lenL U26 (Opd.own (.t rfl))) <| Ao rfl (.eqI (.t rfl) .i64) <| An <| W.cD hm (.t rfl) (fun hp2 hm => ?_) (fun hp2 hm => ?_)
 ·refine Aw <| Ao rfl (.assign .i64) <| WL.ns ?_
  have hr := Si hm
  clear hm
  subst hr
  exact W.ret1 (k, k1) rfl (.t rfl) ⟨rfl, rfl, ⟨rfl, rfl, ⟨rfl, rfl, ⟨rfl, rfl, trivial⟩⟩⟩⟩
 ·refine W.skip <| Aq <| W.seq <| W.seq ?_
  obtain ⟨⟨setroo1, w1⟩, hv3, hm⟩ := Bs hm
  dsimp only at hm
  refine W.weakR (res' := [(400000, (Bx 5 true 56 ((tpagestore_Store_k0 k1).is st) b1)), (1400000, Dec.Own tS 9 k1 st.pages_.length), (1000000, Dec.Own tS 9 k j.texts_.length), (0, (Bx 5 true 60 ((tMap (tP (tOb b1) (tP (tOT tS k) (tP I6 (tOne tjournal_mark)))) (fun x : journal_Journal => (x.Store, x.texts_, x.lasting_, x.last_))).is j) b))]) ⟨rfl, rfl, ⟨rfl, rfl, ⟨rfl, rfl, ⟨rfl, rfl, trivial⟩⟩⟩⟩ <| W.drawM [.c (Bp b 0), .c (Bp b 0), .c (Bp b 0), .c (Bp b1 0), .c (Bp b 0), .c (Bp b 0), .c (Bp b 3), .c (Bp b 3), .c (I6.is j.last_.page_), .c (I6.is setroo1), .c (I6.is setroo1)] [([], [0]), ([0], []), ([1], []), ([2], []), ([], [0]), ([4], []), ([5], []), ([6], []), ([7], []), ([3, 8], []), ([9], [])] [9] [[], [], [], [], [], [], [], [], [], [], []] (fun m cv => match m with | 0 => [(400000, (Bx 5 true 56 ((tpagestore_Store_k0 k1).is st) b1)), (1400000, Dec.Own tS 9 k1 st.pages_.length), (1000000, Dec.Own tS 9 k j.texts_.length), (0, (Bx 5 true 60 ((tMap (tP (tOb b1) (tP (tOT tS k) (tP I6 (tOne tjournal_mark)))) (fun x : journal_Journal => (x.Store, x.texts_, x.lasting_, x.last_))).is j) b))] | _ => [(400000, (Bx 5 true 56 ((tpagestore_Store_k0 (cv 0)).is w1) b1)), (1400000, Dec.Own tS 9 (cv 0) w1.pages_.length), (1000000, Dec.Own tS 9 k j.texts_.length), (0, (Bx 5 true 60 ((tMap (tP (tOb b1) (tP (tOT tS k) (tP I6 (tOne tjournal_mark)))) (fun x : journal_Journal => (x.Store, x.texts_, x.lasting_, x.last_))).is j) b))]) (fun _ => none) Mx rfl rfl rfl rfl rfl ⟨fun _ _ _ _ => rfl, ⟨fun _ _ _ _ => rfl, ⟨fun _ _ _ _ => rfl, ⟨fun _ _ _ _ => rfl, ⟨fun _ _ _ _ => rfl, ⟨fun _ _ _ _ => rfl, ⟨fun _ _ _ _ => rfl, ⟨fun _ _ _ _ => rfl, ⟨fun _ _ _ _ => rfl, ⟨fun _ _ _ _ => rfl, ⟨fun _ _ _ _ => rfl, trivial⟩⟩⟩⟩⟩⟩⟩⟩⟩⟩⟩ rfl ⟨mo fun cv => Op1.move (.t rfl), ⟨mo fun cv => Op1.nilCheckB (.t rfl), ⟨mo fun cv => Op1.fieldAddrB (o := 0) Tryz.underlying60 rfl J29 (.t rfl) rfl, ⟨.inr ⟨fun cv => [(0, (Bx 5 true 60 ((tMap (tP (tOb b1) (tP (tOT tS k) (tP I6 (tOne tjournal_mark)))) (fun x : journal_Journal => (x.Store, x.texts_, x.lasting_, x.last_))).is j) b))], (AllUpTo.at ⟨(fun _ _ => ⟨rfl, rfl, trivial⟩), (fun hw => absurd hw (by decide))⟩), fun cv => Op1.ofOb (Op1.loadBF (s := (tMap (tP (tOb b1) (tP (tOT tS k) (tP I6 (tOne tjournal_mark)))) (fun x : journal_Journal => (x.Store, x.texts_, x.lasting_, x.last_)))) (t := (tOb b1)) (f := fun x : journal_Journal => x.Store) (u := j) 0 rfl ⟨Y29, Z29⟩ ((Fld.map (m := (fun x : journal_Journal => (x.Store, x.texts_, x.lasting_, x.last_))) (Fld.here (tOb b1) (tP (tOT tS k) (tP I6 (tOne tjournal_mark))))).cast rfl rfl) rfl (.t rfl))⟩, ⟨mo fun cv => Op1.move (.t rfl), ⟨mo fun cv => Op1.nilCheckB (.t rfl), ⟨mo fun cv => Op1.fieldAddrB (o := 0) Tryz.underlying60 rfl J58 (.t rfl) rfl, ⟨mo fun cv => Op1.fieldAddrB (o := 3) Tryz.underlying58 rfl J3 (.t rfl) rfl, ⟨.inr ⟨fun cv => [(0, (Bx 5 true 60 ((tMap (tP (tOb b1) (tP (tOT tS k) (tP I6 (tOne tjournal_mark)))) (fun x : journal_Journal => (x.Store, x.texts_, x.lasting_, x.last_))).is j) b))], (AllUpTo.at ⟨(fun _ _ => ⟨rfl, rfl, trivial⟩), (fun hw => absurd hw (by decide))⟩), fun cv => Op1.loadBF (s := (tMap (tP (tOb b1) (tP (tOT tS k) (tP I6 (tOne tjournal_mark)))) (fun x : journal_Journal => (x.Store, x.texts_, x.lasting_, x.last_)))) (f := fun x : journal_Journal => x.last_.page_) (u := j) 0 rfl ty3 (Fld.comp ((Fld.map (m := (fun x : journal_Journal => (x.Store, x.texts_, x.lasting_, x.last_))) (Fld.next (s := (tOb b1)) (Fld.next (s := (tOT tS k)) (Fld.next (s := I6) (Fld.one tjournal_mark))))).cast rfl rfl) fjournal_mark_0) rfl (.t rfl)⟩, ⟨.inl rfl, ⟨mo fun cv => Op1.assign (.t rfl), trivial⟩⟩⟩⟩⟩⟩⟩⟩⟩⟩⟩ ⟨⟨_, _, _, [400000, 1400000], (fun cv => [(400000, (Bx 5 true 56 ((tpagestore_Store_k0 (cv 0)).is w1) b1)), (1400000, Dec.Own tS 9 (cv 0) w1.pages_.length)]), rfl, rfl, rfl, rfl, fun _ => rfl, fun _ _ => rfl, fun cv => OpR.call (us := [400000, 1400000]) (A := fun kx : Tok => (I6.is setroo1)) C31 (FSpecR.keys (rin' := [(400000, (Bx 5 true 56 ((tpagestore_Store_k0 k1).is st) b1)), (1400000, Dec.Own tS 9 k1 st.pages_.length)]) (out' := fun kx : Tok => [(400000, (Bx 5 true 56 ((tpagestore_Store_k0 kx).is w1) b1)), (1400000, Dec.Own tS 9 kx w1.pages_.length)]) (pagestore_Store_SetRoot_spec _ _ _ _ _ hv3) rfl (fun _ => rfl)) rfl ⟨(.t rfl), (.t rfl), trivial⟩⟩, trivial⟩ fun cv => Aq <| Aw <| Am rfl rfl <| Ao rfl (.neI (.t rfl) .i64) <| An <| W.cD hm (.t rfl) (fun hp5 hm => ?_) (fun hp5 hm => ?_)
  ·refine Aw <| Am rfl rfl <| Ag rfl rfl <| WL.ns ?_
   have hr := Si hm
   clear hm
   subst hr
   exact W.ret1 (k, (cv 0)) rfl (.t rfl) ⟨rfl, rfl, ⟨rfl, rfl, ⟨rfl, rfl, ⟨rfl, rfl, trivial⟩⟩⟩⟩
  ·refine W.skip <| Aq <| Aw <| Am rfl rfl <| Am rfl rfl <| Ao rfl (.nilCheckB (.t rfl)) <| Ao rfl (.fieldAddrB (o := 0) Tryz.underlying60 rfl J26 (.t rfl) rfl) <| Ao rfl (.ofOT (Op1.loadBF (s := (tMap (tP (tOb b1) (tP (tOT tS k) (tP I6 (tOne tjournal_mark)))) (fun x : journal_Journal => (x.Store, x.texts_, x.lasting_, x.last_)))) (t := (tOT tS k)) (f := fun x : journal_Journal => x.texts_) (u := j) 0 rfl ⟨ty26.agg, ty26.size⟩ ((Fld.map (m := (fun x : journal_Journal => (x.Store, x.texts_, x.lasting_, x.last_))) (Fld.next (s := (tOb b1)) (Fld.here (tOT tS k) (tP I6 (tOne tjournal_mark))))).cast rfl rfl) rfl (.t rfl))) <| Ao rfl (.lenL U26 (Opd.own (.t rfl))) <| Ao rfl (.nilCheckB (.t rfl)) <| Ao rfl (.fieldAddrB (o := 0) Tryz.underlying60 rfl J3 (.t rfl) rfl) <| WL.opU (OpR.storeBF (b := b) (s := (tMap (tP (tOb b1) (tP (tOT tS k) (tP I6 (tOne tjournal_mark)))) (fun x : journal_Journal => (x.Store, x.texts_, x.lasting_, x.last_)))) 0 rfl ty3 ((FldSet.map (m := (fun x : journal_Journal => (x.Store, x.texts_, x.lasting_, x.last_))) (f' := fun x y => { x with lasting_ := y }) (FldSet.next (s := (tOb b1)) (FldSet.next (s := (tOT tS k)) (FldSet.here I6 (tOne tjournal_mark)))) (fun _ _ => rfl)).cast rfl rfl) rfl (show 2 + 1 ≤ 5 by decide) (.t rfl) (.t rfl)) fun _ => Ar <| Ao rfl (.assign .i64) <| WL.ns ?_
   have hr := Si hm
   clear hm
   subst hr
   exact W.ret1 (k, (cv 0)) rfl (.t rfl) ⟨rfl, rfl, ⟨rfl, rfl, ⟨rfl, rfl, ⟨rfl, rfl, trivial⟩⟩⟩⟩
theorem slices_Clone_string_string_spec (l : List Str) (r : List Str) (hm : M.slices_Clone_string_string l = some r) : FSpecR Tryz.prog 35 [(tL tS).is l] [] (fun k : Tok => tO tS k r) (fun k => [(5, Dec.Own tS 9 k r.length)]) := by
 unfold M.slices_Clone_string_string at hm
 refine FSpecR.of Tryz.func35 rfl rfl rfl fun g0 => W.seq <| W.region <| Ao rfl (.assign (.nil (t := tS))) <| WL.nil <| Aq <| W.seq <| W.seq <| W.region <| Ao rfl (.move (.t rfl)) <| WL.opR rfl (OpR.eqNil U26 (.t rfl)) fun b => WL.nil <| Aq <| W.cond (.t rfl) (fun hc => ?_) (fun hc => ?_)
 ·have hl := b.2 hc
  subst hl
  have hr : [] = r := by simpa [appC] using hm
  subst hr
  exact W.seq <| W.region <| WL.addNil (t := tS) (E := 9) 5 <| Ao rfl (.assign (Opd.nilO (t := tS))) <| WL.nil <| Aq <| W.ret1 (none : Tok) rfl (.t rfl) ⟨rfl, rfl, trivial⟩
 ·exact W.skip <| Aq <| W.seq <| W.region <| WL.opR rfl (OpR.buildSlice (n := 0) (ys := []) (z := ([] : Str)) (xs := []) 5 U26 el9 ze9 trivial (by simp) (by decide) rfl) fun k5 => Ao rfl (.move (.t rfl)) <| WL.opR rfl (OpR.appC (key := 5) hm U26 el9 (.t rfl) (.t rfl) rfl) fun k7 => Ao rfl (.assign (.t rfl)) <| WL.nil <| Aq <| W.ret1 k7 rfl (.t rfl) ⟨rfl, rfl, trivial⟩
end Go.Proofs.YtkobngongonplaaGreatDoor
