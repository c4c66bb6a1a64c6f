import Derived.Test.YtobcmdhemlennaaGreatDoorTy
import Derived.Shelf.RegionOpenPlain
import Derived.Lib.Strings
import Derived.Lib.Walk
import Derived.Lib.Builder
import Derived.Lib.UnsafeStr
import Derived.Lib.MakeNoZero
import Derived.Laws.IdiomCopy
import Derived.WalkKit
import Derived.Laws.Externs
import Derived.KernelRfl
import Derived.Deep.RegionLaw
import Derived.Sort.WalkB12
/-
  The inner functions of builders of strings: written by program.
-/
set_option linter.unusedVariables false
set_option maxRecDepth 100000
namespace Go.Proofs.YtobcmdhemlennaaGreatDoor
open Go Go.RowKit
theorem GA(b:Nat)(w:World)(h0:w.cell? ⟨b,0,none⟩=some (.pointer (some ⟨b,0,none⟩))) :
  Calls Tryz.prog 300 #[.pointer (some ⟨b,0,none⟩)] w λe w'=>e= .returned (.tuple #[])/\w'=w:=by
 obtain ⟨j,hj,_⟩:∃ j,Tryz.prog.info? 271=some j/\j.size=2:=⟨Tryz.t271,Tryz.type271,rfl⟩
 go_enter Tryz.func300,Tryz.ntmps300
 go_wp2
 rw [Lib.run_neq_ptr_same w _ Tryz.underlying268 hj]
 go_wp2
 go_end0
 exact ⟨rfl,rfl⟩
theorem DV(b:Nat)(w:World)(h0:w.cell? ⟨b,0,none⟩=some (.pointer none))(hsh:w.shape? b=some (271,2))(hfz:w.frozen? ⟨b,0,none⟩=false) :
  Calls Tryz.prog 300 #[.pointer (some ⟨b,0,none⟩)] w λe w'=>e= .returned (.tuple #[])/\w'=w.setCell ⟨b,0,none⟩ (.pointer (some ⟨b,0,none⟩)):=by
 obtain ⟨j,hj,hjs⟩:∃ j,Tryz.prog.info? 271=some j/\j.size=2:=⟨Tryz.t271,Tryz.type271,rfl⟩
 go_enter Tryz.func300,Tryz.ntmps300
 go_wp2
 rw [Lib.run_to_unsafe w ⟨b,0,none⟩ Tryz.underlying268 Tryz.underlying304 hj (by rw [hjs];decide) hsh (Nat.zero_lt_succ 1)];simp only [Result.andThen];rw [Oper.upon_value]
 go_wp2
 rw [run_callFunc_extern Tryz.func311 (by kernel_rfl) (by kernel_rfl) (by kernel_rfl) (e:=Extern.AbiNoEscape.same) (by kernel_rfl)];rw [Lib.run_noEscape];simp only [Result.andThen];rw [Oper.upon_value]
 go_wp2
 rw [Lib.run_from_unsafe w ⟨b,0,none⟩ Tryz.underlying304 Tryz.underlying268 hj hsh (by kernel_rfl)];simp only [Result.andThen];rw [Oper.upon_value]
 go_wp2
 go_end0
 exact ⟨rfl,rfl⟩
set_option maxHeartbeats 2000000 in
theorem Rf(b:Nat)(p v:Value)(n:Int)(q:Option Addr)(r:ByteArray)(w w1 w2:World)(hbk:w.heap[b]? =some (.cells #[p,v] 271 (0,0)))
  (hv:∃ ao m c,v= .slice ao m c/\n=(m:Int)) (hlt:w1.heap[b]? =w.heap[b]?)
  (hSD:(Builtin.unsafeSliceData_ #[269] 287 #[v]).run Tryz.prog w.drew= .ok (.pointer q) w1)
  (hUS:(Builtin.unsafeString_ #[287,3] 9 #[.pointer q,.int .i64 n]).run Tryz.prog w1= .ok (.string r) w2) :
  Calls Tryz.prog 285 #[.pointer (some ⟨b,0,none⟩)] w λe w'=>e= .returned (.string r)/\w'=w2:=by
 obtain ⟨ao,m,c,rfl,rfl⟩:=hv;have c1:w.drew.cell? ⟨b,1,none⟩=some (.slice ao m c):=by
  have:w.drew.heap[b]? =some (.cells #[p,.slice ao m c] 271 (0,0)):=hbk;rw [Lib.cell_of_heap this];rfl
 have c2:w1.cell? ⟨b,1,none⟩=some (.slice ao m c):=by
  have:w1.heap[b]? =some (.cells #[p,.slice ao m c] 271 (0,0)):=hlt.trans hbk;rw [Lib.cell_of_heap this];rfl
 go_enter Tryz.func285,Tryz.ntmps285
 go_wp2
 go_region
 all_goals (go_wp2;go_ret;exact ⟨rfl,rfl⟩)
set_option maxHeartbeats 2000000 in
theorem Oq(b n:Nat)(w:World)(hbk:w.heap[b]? =some (.cells #[.pointer (some ⟨b,0,none⟩),.slice none 0 0] 271 (0,0)))(hn:n<=281474976710656) :
  Calls Tryz.prog 301 #[.pointer (some ⟨b,0,none⟩),.int .i64 n] w λe w'=>e= .returned (.tuple #[])/\ ∃ cs:Array Value,n<=cs.size/\(n<=maxLen->cs.size<=maxLen)/\
   w'=((w.setCell ⟨b,1,none⟩ (.slice (some ⟨w.heap.size,0,none⟩) 0 cs.size)).alloc (.cells cs 5)).drew.drew.drew:=by
 obtain ⟨cs,hrun,hle,hmax⟩:=Lib.run_makeNoZero (P:=Tryz.prog) w.drew #[3] 269 5 Tryz.underlying269 n hn;have hw:IntKind.i64.wrap (IntKind.i64.wrap 0+(n:Int))=n:=by
  rw [IntKind.wrap_i64,IntKind.wrap_i64];omega
 have hcall:(callFunc 312 #[.int .i64 (IntKind.i64.wrap (IntKind.i64.wrap 0+(n:Int)))]).run Tryz.prog w.drew= .ok (.value (.slice (some ⟨w.drew.heap.size,0,none⟩) n cs.size)) (w.drew.drew.drew.alloc (.cells cs 5)):=by
  rw [hw,run_callFunc_extern Tryz.func312 (by kernel_rfl) (by kernel_rfl) (by kernel_rfl) (e:=Extern.BytealgMakeNoZero.makeNoZero #[3] #[269]) (by kernel_rfl),hrun];rfl
 have hlt:b<w.heap.size:=by
  rcases Nat.lt_or_ge b w.heap.size with h' | h'
  .exact h'
  .simp [Array.getElem?_eq_none h'] at hbk
 have c1:w.drew.cell? ⟨b,1,none⟩=some (.slice none 0 0):=by
  have:w.drew.heap[b]? =_:=hbk;rw [Lib.cell_of_heap this];rfl
 have c2:(w.alloc (.cells cs 5)).cell? ⟨b,1,none⟩=some (.slice none 0 0):=by
  have:(w.alloc (.cells cs 5)).heap[b]? =_:=(Lib.alloc_old w _ b hlt).trans hbk;rw [Lib.cell_of_heap this];rfl
 have f2:(w.alloc (.cells cs 5)).frozen? ⟨b,1,none⟩=false:=Lib.frozen_of_heap ((Lib.alloc_old w _ b hlt).trans hbk) 1;have hcopy:∀ W:World,(Builtin.copy_ #[269,269] 3 #[.slice (some ⟨w.heap.size,0,none⟩) 0 cs.size,.slice none 0 0]).run Tryz.prog W= .ok (goInt 0) W:=
  λW=>run_copy_none W 269 269 3 5 _ _ 0 cs.size 0 0 Tryz.underlying269 (by kernel_rfl) rfl
 clear hw
 go_enter Tryz.func301,Tryz.ntmps301
 go_wp2
 go_region
 all_goals (go_wp2;go_end0;exact ⟨rfl,cs,hle,hmax,rfl⟩)
set_option maxHeartbeats 2000000 in
theorem Ot(b n:Nat)(w w1:World)(hchk:Calls Tryz.prog 300 #[.pointer (some ⟨b,0,none⟩)] w λe w'=>e= .returned (.tuple #[])/\w'=w1)
  (hbk:w1.heap[b]? =some (.cells #[.pointer (some ⟨b,0,none⟩),.slice none 0 0] 271 (0,0))) (hn:n<=281474976710656) :
  Calls Tryz.prog 283 #[.pointer (some ⟨b,0,none⟩),.int .i64 n] w λe w'=>e= .returned (.tuple #[])/\(w'=w1.drew\/ ∃ cs:Array Value,n<=cs.size/\(n<=maxLen->cs.size<=maxLen)/\
   w'=((w1.setCell ⟨b,1,none⟩ (.slice (some ⟨w1.heap.size,0,none⟩) 0 cs.size)).alloc (.cells cs 5)).drew.drew.drew.drew):=by
 have c1:w1.cell? ⟨b,1,none⟩=some (.slice none 0 0):=by rw [Lib.cell_of_heap hbk];rfl
 have c1':w1.drew.cell? ⟨b,1,none⟩=some (.slice none 0 0):=c1
 go_enter Tryz.func283,Tryz.ntmps283
 go_wp2_with (go_at_call 300;refine hchk.mono ?_;rintro e w' ⟨rfl,h⟩;rw [h])
 go_region
 all_goals go_wp2_with (go_at_call 301;refine (Oq b n w1.drew hbk hn).mono ?_;rintro e w' ⟨rfl,cs,h1,h2,rfl⟩)
 all_goals first
  | (go_end0;exact ⟨rfl,.inr ⟨cs,h1,h2,rfl⟩⟩)
  | (go_end0;exact ⟨rfl,.inl rfl⟩)
end Go.Proofs.YtobcmdhemlennaaGreatDoor
/-
  slices.Delete and slices.Insert at the units of a tree.
-/
set_option linter.unusedSimpArgs false
set_option maxRecDepth 100000
namespace Go.Proofs.YtobcmdhemlennaaGreatDoor
open Go Go.RowKit Go.Dec
set_option maxHeartbeats 4000000 in
theorem Jk(b n c i:Nat)(cur:Array Value)(w:World)(hb:w.heap[b]? =some (.cells cur 27 (0,0)))(hc:cur.size=c*8)(hnc:n<=c)(hi:i<n)(hcm:c<=9223372036854775807)
  (h1:∀ v∈cur.toList.take (n*8),v.oneCell'=true) :
  Calls Tryz.prog 229 #[.slice (some ⟨b,0,none⟩) n c,.int .i64 i,.int .i64 ((i:Int)+1)] w λe w'=>e= .returned (.slice (some ⟨b,0,none⟩) (n-1) c)/\
   ∃ new:Array Value,new.size=cur.size/\new.toList.take ((n-1)*8)=cur.toList.take (i*8)++(cur.toList.take (n*8)).drop ((i+1)*8)/\w'=w.drew.setRow b new:=by
 have e1:¬ ((i:Int)=(i:Int)+1):=by omega
 have e2:((i:Int)+1).toNat=i+1:=by omega
 have mixed:Tryz.prog.follows .mixedOrders=true:=by kernel_rfl
 have hic:i<=c:=by omega
 have hjc:i+1<=c:=by omega
 have hjn:i+1<=n:=by omega
 have h0:(0:Int)<=(i:Int)+1:=by omega
 have h2:(i:Int)+1<=(n:Int):=by omega
 obtain ⟨i0,hi0,hi1⟩:∃ i0,Tryz.prog.info? 27=some i0/\i0.size=8:=⟨Tryz.t27,Tryz.type27,rfl⟩
 obtain ⟨news,hnews⟩:∃ news,news=(cur.toList.take (n*8)).drop ((i+1)*8):=⟨_,rfl⟩
 have hnl:news.length=(n-(i+1))*8:=by rw [hnews,List.length_drop,List.length_take,Array.length_toList];omega
 obtain ⟨A,hA,hsrc⟩:∃ A:Addr,(if c=i+1 then some (⟨b,0,none⟩:Addr) else some ⟨b,(i+1)*8,none⟩)=some A/\ ∀ (t:Nat) u,news[t]? =some u->w.drew.cell? (A.add t)=some u:=by
  by_cases h:c=i+1
  .refine ⟨_,if_pos h,λt u hu=>?_⟩;have:=(List.getElem?_eq_some_iff.1 hu).1;omega
  .refine ⟨_,if_neg h,λt u hu=>?_⟩;have ht:=(List.getElem?_eq_some_iff.1 hu).1;rw [Addr.add_lit];show w.cell? _=_;rw [cell_of_row _ _ _ _ _ _ hb,<-hu,hnews,List.getElem?_drop,List.getElem?_take,if_pos (by omega)];simp
 have happ:=λty=>run_append_room (P:=Tryz.prog) w.drew 25 ty 27 i0 Tryz.underlying25 hi0 b i c cur hb A (n-(i+1)) (c-(i+1)) news (by rw [hi1];exact hnl) hsrc (λu hu=>h1 u (by rw [hnews] at hu;exact List.mem_of_mem_drop hu)) (by omega) (by rw [hi1];omega);rw [hi1] at happ;obtain ⟨z,hz,hz1,hz2⟩:∃ z,(∀ w,(zeroValue 27).run Tryz.prog w= .ok z w)/\z.cells.size=8/\ ∀ v∈z.cells.toList,v.oneCell'=true:=⟨_,Tryz.zeroValue27,rfl,by decide⟩
 generalize hc1:(cur.toList.take (i*8)++news++cur.toList.drop (i*8+news.length)).toArray=c1 at happ;have hs1:c1.size=c*8:=by rw [<-hc1];simp;omega
 have hcl:=λty=>I7 (P:=Tryz.prog) (w.drew.setRow b c1) 25 ty 27 z b ((i+(n-(i+1)))*8) (n-(i+(n-(i+1)))) (c-(i+(n-(i+1)))) c1 Tryz.underlying25 hz (setRow_heap w.drew b cur c1 27 _ hb) hz2 (by omega) (by rw [hz1];omega);generalize hc2:(over c1.toList ((i+(n-(i+1)))*8) (Builtin.zeroCells z.cells (n-(i+(n-(i+1))))).toList).toArray=c2 at hcl;have hf:c2.size=cur.size/\c2.toList.take ((n-1)*8)=cur.toList.take (i*8)++(cur.toList.take (n*8)).drop ((i+1)*8):=by
  have hzl:(Builtin.zeroCells z.cells (n-(i+(n-(i+1))))).toList.length=(n-(i+(n-(i+1))))*8:=by rw [Array.length_toList,size_zeroCells,hz1]
  refine ⟨by rw [<-hc2,List.size_toArray,gF (by rw [hzl,Array.length_toList];omega),Array.length_toList,hs1,hc],?_⟩;rw [<-hc2,<-hnews,<-hc1];have h3:(n-1)*8=(cur.toList.take (i*8)++news).length:=by rw [List.length_append,hnl,List.length_take,Array.length_toList];omega
  simp only [over];rw [show (i+(n-(i+1)))*8=(n-1)*8 by omega,List.append_assoc,List.take_append_of_le_length (by rw [List.length_take];simp;omega),List.take_take,Nat.min_self,h3];exact List.take_left
 have hw:(w.drew.setRow b c1).setRow b c2=w.drew.setRow b c2:=setRow_setRow _ _ _ _;rw [hw] at hcl;have hF:Aside (c2.size=cur.size/\c2.toList.take ((n-1)*8)=cur.toList.take (i*8)++(cur.toList.take (n*8)).drop ((i+1)*8)):=hf;have hn1:i+(n-(i+1))=n-1:=by omega
 rw [hn1] at happ hcl;clear hb h1 hnews hnl hsrc hc1 hc2 hs1 hf hw hz hz1 hz2
 go_enter Tryz.func229,Tryz.ntmps229
 go_wp2_with fail
 go_region_law_o (refine Bg rfl _ _ 25 25 rfl _ _ (by simp [Act.eval,Act.put]) (by simp [Act.eval,Act.put]) (happ _) ?_)
 go_wp2
 go_ret
 exact ⟨rfl,c2,hF.1,hF.2,rfl⟩
set_option maxHeartbeats 4000000 in
theorem GD(b n c i vc g gc:Nat)(q:Option Addr)(w w1 w2 w3:World)(v1 v2:Value)(hi:i<n)(hnc:n<=c)(hroom:c<n+1)(hgc:n+1<=gc)(hcm:gc<=9223372036854775807)
  (happ:∀ ty,(Builtin.append_ #[25,3] ty #[.slice (some ⟨b,0,none⟩) i c,.int .i64 ((n:Int)+1-(i:Int))]).run Tryz.prog w= .ok (.slice (some ⟨g,0,none⟩) (n+1) gc) w1)
  (hcp:∀ ty,(Builtin.copy_ #[25,25] ty #[.slice (some ⟨g,i*8,none⟩) (n+1-i) (gc-i),.slice q 1 vc]).run Tryz.prog w1= .ok v1 w2)
  (hcq:∀ ty,(Builtin.copy_ #[25,25] ty #[.slice (some ⟨g,(i+1)*8,none⟩) (n+1-(i+1)) (gc-(i+1)),.slice (some ⟨b,i*8,none⟩) (n-i) (c-i)]).run Tryz.prog w2.drew= .ok v2 w3) :
  Calls Tryz.prog 169 #[.slice (some ⟨b,0,none⟩) n c,.int .i64 i,.slice q 1 vc] w λe w'=>e= .returned (.slice (some ⟨g,0,none⟩) (n+1) gc)/\w'=w3:=by
 have mixed:Tryz.prog.follows .mixedOrders=true:=by kernel_rfl
 have hin:i<=n:=by omega
 have hic:i<=c:=by omega
 have e0:IntKind.i64.wrap ((i:Int)+1)=(i:Int)+1:=by rw [IntKind.wrap_i64];omega
 have e1:¬ ((i:Int)=(n:Int)):=by omega
 have e2:(c:Int)< (n:Int)+1:=by omega
 have e3:(0:Int)<=(i:Int)+1:=by omega
 have e4:(i:Int)+1<=(n:Int)+1:=by omega
 have e5:((i:Int)+1).toNat=i+1:=by omega
 have e6:(i:Int)<=(n:Int)+1:=by omega
 have e7:¬ (c=i):=by omega
 have e8:¬ (gc=i):=by omega
 have e9:¬ (gc=i+1):=by omega
 go_enter Tryz.func169,Tryz.ntmps169
 go_wp2_with (at_builtin;refine Lib.wpList_append_run _ rfl _ _ _ _ rfl _ _ rfl rfl _ _ (happ _) ?_)
 go_wp2_with (at_builtin;refine wpL_copy_run _ rfl _ _ 25 25 rfl _ _ rfl rfl (hcp _) ?_)
 go_region_law_o (refine yh rfl _ _ 25 25 rfl _ _ (by simp [Act.eval,Act.put]) (by simp [Act.eval,Act.put]) (hcq _) ?_)
 go_wp2
 go_ret
 exact ⟨rfl,rfl⟩
set_option maxHeartbeats 4000000 in
theorem ES(b n c i vc:Nat)(q:Option Addr)(w w1 w2:World)(v1 v2:Value)(hi:i<n)(hroom:n+1<=c)(hcm:c<=9223372036854775807)
  (hov:∀ lb cb,(callFunc 226 #[.slice q 1 vc,.slice (some ⟨b,(i+1)*8,none⟩) lb cb]).run Tryz.prog w= .ok (.value (.bool false)) w)
  (hcp:∀ ty,(Builtin.copy_ #[25,25] ty #[.slice (some ⟨b,(i+1)*8,none⟩) (n+1-(i+1)) (c-(i+1)),.slice (some ⟨b,i*8,none⟩) (n+1-i) (c-i)]).run Tryz.prog w.drew= .ok v1 w1)
  (hcq:∀ ty,(Builtin.copy_ #[25,25] ty #[.slice (some ⟨b,i*8,none⟩) (n+1-i) (c-i),.slice q 1 vc]).run Tryz.prog w1= .ok v2 w2) :
  Calls Tryz.prog 169 #[.slice (some ⟨b,0,none⟩) n c,.int .i64 i,.slice q 1 vc] w λe w'=>e= .returned (.slice (some ⟨b,0,none⟩) (n+1) c)/\w'=w2:=by
 have mixed:Tryz.prog.follows .mixedOrders=true:=by kernel_rfl
 have hin:i<=n:=by omega
 have hic:i<=c:=by omega
 have e0:IntKind.i64.wrap ((i:Int)+1)=(i:Int)+1:=by rw [IntKind.wrap_i64];omega
 have e1:¬ ((i:Int)=(n:Int)):=by omega
 have e2:¬ ((c:Int)< (n:Int)+1):=by omega
 have e3:(0:Int)<=(i:Int)+1:=by omega
 have e4:(i:Int)+1<=(n:Int)+1:=by omega
 have e5:((i:Int)+1).toNat=i+1:=by omega
 have e6:(i:Int)<=(n:Int)+1:=by omega
 have e7:¬ (c=i):=by omega
 have e8:¬ (c=i+1):=by omega
 go_enter Tryz.func169,Tryz.ntmps169
 go_wp2_with (simp only [hov])
 go_region_law_o (refine yh rfl _ _ 25 25 rfl _ _ (by simp [Act.eval,Act.put]) (by simp [Act.eval,Act.put]) (hcp _) ?_)
 go_wp2_with (at_builtin;refine wpL_copy_run _ rfl _ _ 25 25 rfl _ _ rfl rfl (hcq _) ?_)
 go_ret
 exact ⟨rfl,rfl⟩
theorem LY(xs v:List aa)(i j:Int)(k:Tok)(key:Nat)(h:delC xs i j=some v) :
  aR Tryz.prog 229 [tU k xs.length,(tI .i64).is i,(tI .i64).is j] [(key,OwnU ae 27 k xs)] (λk:Tok=>tU k v.length) (λk=>[(key,OwnU ae 27 k v)]):=by
 unfold delC at h;split at h
 next hc=>
  cases h;obtain ⟨hi0,rfl,hj⟩:=hc;obtain ⟨m,rfl⟩:∃ m:Nat,i=(m:Int):=⟨i.toNat,by omega⟩
  have hj:m<xs.length:=by omega
  have hm1:((m:Int)+1).toNat=m+1:=by omega
  simp only [Int.toNat_natCast,hm1];intro g vs hvs hr hd
  .obtain ⟨v0,v1,v2,rfl,⟨a1,a2,a3⟩,b1,b2⟩:=hvs.three;have b1:=I9 b1;have b2:=I9 b2;subst a1 b1 b2;have hres:(OwnU ae 27 k xs).holds g:=hr _ (List.mem_singleton.2 rfl);cases k with
   | none=>
    have hres:xs= []:=hres;rw [hres] at hj;simp at hj
   | some p=>
    obtain ⟨b,c⟩:=p;obtain ⟨cur,h1,h2,h3,h4,h5,h6⟩:=hres;have h3:xs.length<=c:=h3;refine (Jk b xs.length c m cur g.w h1 h2 h3 hj (Nat.le_trans h4 (by decide)) h6.2.1).mono ?_;rintro e w' ⟨he,new,q1,q2,rfl⟩;let g':G:=⟨g.w.drew.setRow b new,λx=>if x=b then 0 else g.S x⟩
    have e1:Ext (λx=>x=b) g g':=(Ext.drew _ g).trans (o8 (g:=g.drew) h1 (Nat.le_of_eq h5) (λi v hi _=>by rw [show g.drew.S b=0 from h5] at hi;omega) (λh=>by rw [show g.drew.S b=0 from h5] at h;omega)) (λ_ _ h=>h);have hl:(xs.take m++xs.drop (m+1)).length=xs.length-1:=by rw [List.length_append,List.length_take,List.length_drop];omega
    refine ⟨some (b,c),_,g',rfl,he,e1.mono (λx hx=>⟨_,List.mem_singleton.2 rfl,by rw [show x=b from hx];rfl⟩),⟨by rw [hl];rfl,by rw [hl];exact Nat.le_trans (Nat.sub_le _ _) h3,by rw [hl];omega⟩,λy hy=>?_,List.pairwise_singleton _ _,λb' ⟨y,hy,hb⟩=>.inl ?_⟩
    .rw [List.mem_singleton.1 hy];refine OwnU.ofRow (setRow_heap g.w.drew b cur new 27 _ h1) (by rw [q1];exact h2) (by rw [hl];omega) h4 (if_pos rfl) ((((Cells.take m (by omega) h6).append (Cells.drop (m+1) (by omega) h6))).mono e1) ?_;rw [hl];refine q2.trans ?_;congr 1;show _=List.take (m*8) (List.take (xs.length*8) cur.toList);rw [List.take_take,Nat.min_eq_left (by omega)]
    .rw [List.mem_singleton.1 hy] at hb;exact ⟨_,List.mem_singleton.2 rfl,hb⟩
 next=>cases h
theorem DW(xs ys v:List aa)(i:Int)(k:Tok)(key:Nat)(h:insC xs i ys=some v) :
  aR Tryz.prog 169 [tU k xs.length,(tI .i64).is i,(tL ae).is ys] [(key,OwnU ae 27 k xs)] (λk:Tok=>tU k v.length) (λk=>[(key,OwnU ae 27 k v)]):=by
 cases ys with
 | nil=>cases (show (none:Option (List aa))=some v from h)
 | cons y r=>
 cases r with
 | cons y2 r=>cases (show (none:Option (List aa))=some v from h)
 | nil=>
 replace h:(if 0<=i/\i<=xs.length/\xs.length+1<=274877906944 then some (xs.take i.toNat++y :: xs.drop i.toNat) else none)=some v:=h
 split at h
 next hc=>
  cases h;obtain ⟨hi0,hi1,hlim⟩:=hc;obtain ⟨m,rfl⟩:∃ m:Nat,i=(m:Int):=⟨i.toNat,by omega⟩
  simp only [Int.toNat_natCast];have hmn:m<=xs.length:=by omega
  have hl:(xs.take m++y :: xs.drop m).length=xs.length+1:=by rw [List.length_append,List.length_take,List.length_cons,List.length_drop];omega
  by_cases hend:m=xs.length
  .subst hend;have hv:xs.take xs.length++y :: xs.drop xs.length=xs++ [y]:=by simp
   rw [hv];have happ:appC xs [y]=some (xs++ [y]):=bu (by simpa using hlim);refine aR.of Tryz.func169 rfl rfl rfl (λg0=>?_);refine W.seq ?_;refine W.region ?_;refine WL.op rfl (Op1.assign (.nil (t:=ae))) ?_;refine WL.nil ?_;refine WN.seq ?_;refine W.seq ?_;refine W.region ?_;refine WL.op rfl (Op1.move (.tmp rfl)) ?_;refine WL.op rfl (Op1.move (.tmp rfl)) ?_;refine WL.op rfl (Op1.partU (n:=xs.length) (i:=(xs.length:Int)) (by omega) (by omega) Tryz.underlying25 Tryz.sizeOf27 (.tmp rfl) (.tmp rfl)) ?_;refine WL.nil ?_;refine WN.seq ?_;refine W.seq ?_;refine W.region ?_;refine WL.op rfl (Op1.move (.tmp rfl)) ?_;refine WL.op rfl (Op1.qd Tryz.underlying25 (.tmp rfl)) ?_;refine WL.op rfl (Op1.assign (.tmp rfl)) ?_;refine WL.nil ?_;refine WN.seq ?_;refine W.seq ?_;refine W.seq ?_;refine W.region ?_;refine WL.op rfl (Op1.move (.tmp rfl)) ?_;refine WL.op rfl (Op1.eqI (.tmp rfl) (.int (inR64.2 (by omega)))) ?_;refine WL.nil ?_;refine WN.seq ?_;refine W.cond (.tmp rfl) (λhc=>absurd (of_decide_eq_true hc) (by simp)) (λ_=>?_);refine W.skip ?_;refine WN.seq ?_;refine W.seq ?_;refine W.region ?_;refine WL.op rfl (Op1.move (.tmp rfl)) ?_;refine WL.op rfl (Op1.kv Tryz.underlying25 (.tmp rfl)) ?_;refine WL.op rfl (Op1.assign (.tmp rfl)) ?_;refine WL.nil ?_;refine WN.seq ?_;refine W.seq ?_;refine W.seq ?_;refine W.region ?_;refine WL.op rfl (Op1.move (.tmp rfl)) ?_;refine WL.op rfl (Op1.move (.tmp rfl)) ?_;refine WL.op rfl (Op1.eqI (.tmp rfl) (.tmp rfl)) ?_;refine WL.nil ?_;refine WN.seq ?_;refine W.cond (.tmp rfl) (λ_=>?_) (λhc=>absurd rfl (of_decide_eq_false hc));refine W.seq ?_;refine W.region ?_;refine WL.op rfl (Op1.move (.tmp rfl)) ?_;refine WL.op rfl (Op1.move (.tmp rfl)) ?_;refine WL.opR rfl (OpR.appendL (key:=key) happ (by simp) Tryz.underlying25 el27.h (.tmp rfl) (.tmp rfl) (by simp [Rs.pick,memB,Nat.beq_refl])) (λk1=>?_);refine WL.op rfl (Op1.assign (.tmp rfl)) ?_;refine WL.nil ?_;refine WN.seq ?_;refine W.weakR (res':=[(key,OwnU ae 27 k1 (xs++ [y]))]) ⟨by simp [findR,Nat.beq_refl],rfl,trivial⟩ ?_;exact W.ret1 k1 rfl (.tmp rfl) ⟨by simp [findR,Nat.beq_refl],rfl,trivial⟩
  .intro g vs hvs hr hd;obtain ⟨v0,v1,v2,rfl,⟨a1,a2,a3⟩,b1,b2⟩:=hvs.three;have b1:=I9 b1;subst a1 b1;have hres:(OwnU ae 27 k xs).holds g:=hr _ (List.mem_singleton.2 rfl);have hi:m<xs.length:=by omega
   cases k with
   | none=>
    have hres:xs= []:=hres;rw [hres] at hi;simp at hi
   | some p=>
   obtain ⟨b,c⟩:=p;obtain ⟨cur,h1,h2,h3,h4,h5,h6⟩:=hres;have h3:xs.length<=c:=h3;have h4:c<=maxLen:=h4;have h2:cur.size=c*8:=h2;obtain ⟨cs2,⟨q,vc,hcs,hq1,hq2,hq3,hq4⟩,hv2⟩:=b2;subst hcs;have hv2:v2= .slice q 1 vc:=hv2;subst hv2;cases q with
   | none=>cases (show [y]= [] from hq4)
   | some ad=>
   obtain ⟨hsp,hat⟩:=hq4
   replace hsp:ad.spot=none:=hsp.resolve_left (by simp)
   obtain ⟨bs,os,spot⟩:=ad;simp at hsp;subst hsp;obtain ⟨news,hn1,hn2⟩:=hat 0 y rfl;have hnl:news.length=8:=ae.len hn1;simp only [Nat.zero_mul,Nat.add_zero] at hn2;have hne:bs≠b:=by
    rintro rfl;have:=(hn2 0 _ (List.getElem?_eq_getElem (by omega))).1;have h5:g.S bs=0:=h5;omega
   have hnw:∀ (j:Nat) u,news[j]? =some u->g.w.cell? ((⟨bs,os,none⟩:Addr).add j)=some u:=λj u hj=>by rw [Addr.add_lit];exact (hn2 j u hj).2
   have hn1c:∀ u∈news,u.oneCell'=true:=ae.one hn1;have hcl:cur.toList.length=c*8:=by simpa using h2
   obtain ⟨pre,hpre⟩:∃ pre,pre=cur.toList.take (m*8):=⟨_,rfl⟩
   have hpl:pre.length=m*8:=by rw [hpre,List.length_take];omega
   obtain ⟨cs,hcs⟩:∃ cs,cs=(cur.toList.take (xs.length*8)).drop (m*8):=⟨_,rfl⟩
   have hcsl:cs.length=(xs.length-m)*8:=by rw [hcs,List.length_drop,List.length_take];omega
   have hcs1:∀ u∈cs,u.oneCell'=true:=λu hu=>h6.2.1 u (by rw [hcs] at hu;exact List.mem_of_mem_drop hu);have hcsw:∀ (j:Nat) u,cs[j]? =some u->g.w.cell? ((⟨b,m*8,none⟩:Addr).add j)=some u:=λj u hj=>by
    have ht:=(List.getElem?_eq_some_iff.1 hj).1;rw [Addr.add_lit,cell_of_row _ _ _ _ _ _ h1,<-hj,hcs,List.getElem?_drop,List.getElem?_take,if_pos (by omega)];simp
   have hCells:Cells ae g (pre++news++cs) (xs.take m++y :: xs.drop m):=by
    have hp:=Cells.take m (by omega) h6;have hd:=Cells.drop m (by omega) h6;have e1:(cur.toList.take (xs.length*ae.size)).take (m*ae.size)=pre:=by
     show (cur.toList.take (xs.length*8)).take (m*8)=pre;rw [hpre,List.take_take,Nat.min_eq_left (by omega)]
    rw [e1] at hp;have hd:Cells ae g cs (xs.drop m):=by rw [hcs];exact hd
    rw [List.append_assoc];exact hp.append (Cells.cons hn1 hd)
   have e8:∀ a:Nat,(a+1)*8=a*8+8:=λa=>Nat.succ_mul a 8;by_cases hroom:xs.length+1<=c
   .have hov:∀ lb cb,(callFunc 226 #[.slice (some ⟨bs,os,none⟩) 1 vc,.slice (some ⟨b,(m+1)*8,none⟩) lb cb]).run Tryz.prog g.w= .ok (.value (.bool false)) g.w:=λlb cb=>by
     obtain ⟨T1,n1,hs1,hs2⟩:=I8 (hn2 0 _ (List.getElem?_eq_getElem (by omega))).2;rw [run_callFunc_extern Tryz.func226 (by kernel_rfl) (by kernel_rfl) (by kernel_rfl) (e:=Extern.SlicesOverlaps.overlaps #[25,25] #[4]) (by kernel_rfl),
      zS g.w 25 4 27 Tryz.underlying25 8 Tryz.sizeOf27 ⟨bs,os,none⟩ ⟨b,(m+1)*8,none⟩ 1 vc lb cb hne T1 27 n1 cur.size hs1 (by simp [World.shape?,h1]) hs2 (by simp [World.frozen?,h1]) (by simp [World.frozen?,h1])]
     rfl
    have hmin1:Nat.min (xs.length+1-m) (xs.length+1-(m+1))=xs.length-m:=by show min _ _=_;omega
    have hmin2:Nat.min 1 (xs.length+1-m)=1:=by show min _ _=_;omega
    have hcp:=λty=>xz (P:=Tryz.prog) g.w.drew 25 ty 27 8 b ((m+1)*8) (xs.length+1-(m+1)) (c-(m+1)) (xs.length+1-m) (c-m) ⟨b,m*8,none⟩ cur cs Tryz.underlying25 Tryz.sizeOf27 h1 (by rw [hmin1];exact hcsl) hcsw hcs1 (by rw [hcsl];omega);obtain ⟨c1,hc1⟩:∃ c1:Array Value,c1=(over cur.toList ((m+1)*8) cs).toArray:=⟨_,rfl⟩
    rw [<-hc1] at hcp;have hs1:c1.size=c*8:=by rw [hc1,List.size_toArray,gF (by rw [hcsl];omega),hcl]
    have hl1:c1.toList.length=c*8:=by rw [Array.length_toList];exact hs1
    have hcq:=λty=>xz (P:=Tryz.prog) (g.w.drew.setRow b c1) 25 ty 27 8 b (m*8) (xs.length+1-m) (c-m) 1 vc ⟨bs,os,none⟩ c1 news Tryz.underlying25 Tryz.sizeOf27 (setRow_heap g.w.drew b cur c1 27 _ h1) (by rw [hmin2];exact hnl)
     (λj u hj=>by rw [cell_setRow_other _ _ _ _ (by rw [Addr.add_lit];exact hne)];exact hnw j u hj) hn1c (by rw [hnl];omega)
    obtain ⟨c2,hc2⟩:∃ c2:Array Value,c2=(over c1.toList (m*8) news).toArray:=⟨_,rfl⟩
    rw [<-hc2] at hcq;refine (ES b xs.length c m vc (some ⟨bs,os,none⟩) g.w _ _ _ _ hi hroom (Nat.le_trans h4 (by decide)) hov hcp hcq).mono ?_;rintro e w' ⟨he,hw'⟩;rw [setRow_setRow] at hw';subst hw';let g':G:=⟨g.w.drew.setRow b c2,λx=>if x=b then 0 else g.S x⟩
    have e1:Ext (λx=>x=b) g g':=(Ext.drew _ g).trans (o8 (g:=g.drew) h1 (Nat.le_of_eq h5) (λi v hi _=>by rw [show g.drew.S b=0 from h5] at hi;omega) (λh=>by rw [show g.drew.S b=0 from h5] at h;omega)) (λ_ _ h=>h);refine ⟨some (b,c),_,g',rfl,he,e1.mono (λx hx=>⟨_,List.mem_singleton.2 rfl,by rw [show x=b from hx];rfl⟩),⟨by rw [hl];rfl,by rw [hl];exact hroom,by rw [hl];unfold lim;omega⟩,λz hz=>?_,List.pairwise_singleton _ _,λb' ⟨z,hz,hb⟩=>.inl ?_⟩
    .rw [List.mem_singleton.1 hz];refine OwnU.ofRow (setRow_heap g.w.drew b cur c2 27 _ h1) (by rw [hc2,List.size_toArray,gF (by rw [hl1,hnl];omega),hl1];rfl) (by rw [hl];exact hroom) h4 (if_pos rfl) (hCells.mono e1) ?_;rw [hl,hc2,hc1];have:=LH (R:=cur.toList) (pre:=pre) (news:=news) (cs:=cs) (by rw [hpl,hpre]) (by rw [hpl,hnl,hcsl,hcl];omega);rw [hpl,hnl,hcsl,<-e8] at this;rw [<-this];show List.take ((xs.length+1)*8) _=_;rw [show (m+1)*8+(xs.length-m)*8=(xs.length+1)*8 by omega]
    .rw [List.mem_singleton.1 hz] at hb;exact ⟨_,List.mem_singleton.2 rfl,hb⟩
   .obtain ⟨i0,z,hi0,hz0,hz1,hz2,hz3⟩:=el27.h.row;have hk:(xs.length:Int)+1-(m:Int)=((xs.length+1-m:Nat):Int):=by omega
    have hmk:m+(xs.length+1-m)=xs.length+1:=by omega
    have hz1:i0.size=8:=hz1;have hz3:z.cells.size=8:=hz3;have hcb:c<xs.length+1:=by omega
    have hold:(Builtin.firstCells i0.size m (.slice (some ⟨b,0,none⟩) m c)).run Tryz.prog g.w.drew= .ok pre.toArray g.w.drew:=by
     rw [hz1];refine run_firstCells_some (P:=Tryz.prog) g.w.drew 8 m ⟨b,0,none⟩ m c pre hpl (λj u hj=>?_);have ht:=(List.getElem?_eq_some_iff.1 hj).1;rw [Addr.add_lit,Nat.zero_add];show g.w.cell? _=_;rw [cell_of_row _ _ _ _ _ _ h1,<-hj,hpre,List.getElem?_take,if_pos (by omega)];simp
    have hfit:Builtin.nextslicecap (m+(xs.length+1-m)) c*i0.bytes<=281474976710656:=growslice_fits (by omega) (by
     have:=Nat.mul_le_mul hlim hz2;rw [hmk];omega)
    have hap:=λty=>Lib.run_append_grow_zeros (P:=Tryz.prog) g.w 25 3 ty 27 i0 z .i64 .i64 Tryz.underlying25 Tryz.underlying3 hi0 hz0 (some ⟨b,0,none⟩) m c pre hold (xs.length+1-m) (by omega) (by omega) (by omega) (by omega) (by
     have:=Nat.mul_le_mul (show xs.length+1-m<=274877906944 by omega) hz2;omega) hfit
    rw [hmk] at hap;have hge:=grownCap_ge g.w (xs.length+1) c 27;have hcm:grownCap g.w (xs.length+1) c 27<=maxLen:=grownCap_le_maxLen g.w _ c 27 (by unfold maxLen;omega);generalize grownCap g.w (xs.length+1) c 27=G at hap hge hcm;obtain ⟨row,hrow⟩:∃ row,row=pre.toArray++Builtin.zeroCells z.cells (xs.length+1-m)++Builtin.zeroCells z.cells (G-(xs.length+1)):=⟨_,rfl⟩
    rw [<-hrow] at hap;have hrs:row.size=G*8:=by rw [hrow,Array.size_append,Array.size_append,size_zeroCells,size_zeroCells,List.size_toArray,hpl,hz3];omega
    have hrl:row.toList.length=G*8:=by simpa using hrs
    have hrp:row.toList.take (m*8)=pre:=by rw [hrow,Array.toList_append,Array.toList_append,List.append_assoc,<-hpl];exact List.take_left
    have hblt:b<g.w.heap.size:=(Array.getElem?_eq_some_iff.1 h1).1;have hslt:bs<g.w.heap.size:=(hn2 0 _ (List.getElem?_eq_getElem (by omega))).lt;let g1:Go.Dec.G:=g.drew.alloc (.cells row 27) 0;have e1:Ext No g g1:=(Ext.drew No g).trans' (Ext.alloc No _ _ _);have hr1:g1.w.heap[g.w.heap.size]? =some (.cells row 27 (0,0)):=heap_alloc_new g.w.drew _;have ho1:∀ (a:Addr) u,a.block<g.w.heap.size->g.w.cell? a=some u->g1.w.cell? a=some u:=λa u ha hu=>by
     have:=heap_alloc_old g.w.drew (.cells row 27) ha;rw [<-hu];show World.cell? (g.w.drew.alloc (.cells row 27)) a=_;simp only [World.cell?,this];rfl
    have hmin2:Nat.min 1 (xs.length+1-m)=1:=by show min _ _=_;omega
    have hmin1:Nat.min (xs.length-m) (xs.length+1-(m+1))=xs.length-m:=by show min _ _=_;omega
    have hcp:=λty=>xz (P:=Tryz.prog) g1.w 25 ty 27 8 g.w.heap.size (m*8) (xs.length+1-m) (G-m) 1 vc ⟨bs,os,none⟩ row news Tryz.underlying25 Tryz.sizeOf27 hr1 (by rw [hmin2];exact hnl)
     (λj u hj=>ho1 _ _ (by rw [Addr.add_lit];exact hslt) (hnw j u hj)) hn1c (by rw [hnl];omega)
    obtain ⟨c1,hc1⟩:∃ c1:Array Value,c1=(over row.toList (m*8) news).toArray:=⟨_,rfl⟩
    rw [<-hc1] at hcp;have hs1:c1.size=G*8:=by rw [hc1,List.size_toArray,gF (by rw [hnl];omega),hrl]
    have hl1:c1.toList.length=G*8:=by rw [Array.length_toList];exact hs1
    have hr2:(g1.w.setRow g.w.heap.size c1).drew.heap[g.w.heap.size]? =some (.cells c1 27 (0,0)):=setRow_heap g1.w g.w.heap.size row c1 27 _ hr1;have hcq:=λty=>xz (P:=Tryz.prog) (g1.w.setRow g.w.heap.size c1).drew 25 ty 27 8 g.w.heap.size ((m+1)*8) (xs.length+1-(m+1)) (G-(m+1)) (xs.length-m) (c-m) ⟨b,m*8,none⟩ c1 cs Tryz.underlying25 Tryz.sizeOf27 hr2 (by rw [hmin1];exact hcsl)
     (λj u hj=>by
      show (g1.w.setRow g.w.heap.size c1).cell? _=_;rw [cell_setRow_other _ _ _ _ (by rw [Addr.add_lit];show b≠_;omega)];exact ho1 _ _ (by rw [Addr.add_lit];exact hblt) (hcsw j u hj)) hcs1 (by rw [hcsl];omega)
    obtain ⟨c2,hc2⟩:∃ c2:Array Value,c2=(over c1.toList ((m+1)*8) cs).toArray:=⟨_,rfl⟩
    rw [<-hc2] at hcq;refine (GD b xs.length c m vc g.w.heap.size G (some ⟨bs,os,none⟩) g.w g1.w _ _ _ _ hi h3 hcb hge (Nat.le_trans hcm (by decide)) (λty=>by rw [hk];exact hap ty) hcp hcq).mono ?_;rintro e w' ⟨he,hw'⟩;subst hw';let g2:Go.Dec.G:=⟨g1.w.setRow g.w.heap.size c1,λx=>if x=g.w.heap.size then 0 else g1.S x⟩
    have hS1:g1.S g.w.heap.size=0:=if_pos rfl;have e2:Ext No g g2:=e1.trans (o8 (g:=g1) hr1 (Nat.le_of_eq hS1) (λi v hi _=>by omega) (λh=>by omega)) (λx hx h=>by rw [show x=g.w.heap.size from h] at hx;exact absurd hx (Nat.lt_irrefl _));let g3:Go.Dec.G:=⟨(g1.w.setRow g.w.heap.size c1).drew.setRow g.w.heap.size c2,λx=>if x=g.w.heap.size then 0 else g2.S x⟩
    have hS2:g2.drew.S g.w.heap.size=0:=if_pos rfl;have e3:Ext No g g3:=(e2.trans' (Ext.drew No g2)).trans (o8 (g:=g2.drew) hr2 (Nat.le_of_eq hS2) (λi v hi _=>by omega) (λh=>by omega)) (λx hx h=>by rw [show x=g.w.heap.size from h] at hx;exact absurd hx (Nat.lt_irrefl _));refine ⟨some (g.w.heap.size,G),_,g3,rfl,he,e3.no,⟨by rw [hl];rfl,by rw [hl];exact hge,by rw [hl];unfold lim;omega⟩,λw hw=>?_,List.pairwise_singleton _ _,λb' ⟨w,hw,hb⟩=>.inr ?_⟩
    .rw [List.mem_singleton.1 hw];refine OwnU.ofRow (setRow_heap _ _ c1 c2 27 _ hr2) (by rw [hc2,List.size_toArray,gF (by rw [hl1,hcsl];omega),hl1];rfl) (by rw [hl];exact hge) hcm (if_pos rfl) (hCells.mono e3) ?_;rw [hl,hc2,hc1];have:=NS (R:=row.toList) (pre:=pre) (news:=news) (cs:=cs) (by rw [hpl,hrp]) (by rw [hpl,hnl,hcsl,hrl];omega);rw [hpl,hnl,hcsl,<-e8] at this;rw [<-this];show List.take ((xs.length+1)*8) _=_;rw [show (m+1)*8+(xs.length-m)*8=(xs.length+1)*8 by omega]
    .rw [List.mem_singleton.1 hw] at hb;have hb:some g.w.heap.size=some b':=hb;cases hb;exact Nat.le_refl _
 next=>cases h
end Go.Proofs.YtobcmdhemlennaaGreatDoor
