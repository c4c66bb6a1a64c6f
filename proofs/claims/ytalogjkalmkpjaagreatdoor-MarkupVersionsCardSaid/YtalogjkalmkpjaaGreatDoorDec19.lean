/-
  A variable of two cells, its own address and a slice of bytes, that is written by calls alone: builders of strings.
-/
import Derived.Test.YtalogjkalmkpjaaGreatDoorDec21
import Derived.Lib.AppendStr
import Derived.Lib.UnsafeStr
set_option linter.unusedVariables false
set_option linter.unusedSimpArgs false
namespace Go.Dec
open Go
theorem heap_setCell_other(w:World)(b i:Nat)(v:Value){x:Nat}(h:x≠b):(w.setCell ⟨b,i,none⟩ v).heap[x]? =w.heap[x]?:=by
 simp only [World.setCell,Array.getElem?_modify];rw [if_neg (fun e=>h e.symm)]
theorem heap_setCell_same(w:World)(b i:Nat)(v:Value){cs:List Value}{T:TypeId}(h:w.heap[b]? =some (.cells cs.toArray T (0,0))):(w.setCell ⟨b,i,none⟩ v).heap[b]? =some (.cells (cs.set i v).toArray T (0,0)):=by
 simp [World.setCell,Array.getElem?_modify,h]
def bldA(k:Tok)(l:Str)(b:Nat):Asn:=
 ⟨fun v g=>∃ p s,v= .agg #[.pointer p,s]∧(p=none∨p=some ⟨b,0,none⟩)∧(tO (tI .u8) k (bytesOf l)).holds s g,fun e ⟨p,s,h1,h2,h3⟩=>⟨p,s,h1,h2,(tO (tI .u8) k (bytesOf l)).mono e h3⟩⟩
def bldU(k:Tok)(l:Str)(b:Nat):Asn:=
 ⟨fun v g=>∃ s,v= .agg #[.pointer (some ⟨b,0,none⟩),s]∧(tO (tI .u8) k (bytesOf l)).holds s g,fun e ⟨s,h1,h3⟩=>⟨s,h1,(tO (tI .u8) k (bytesOf l)).mono e h3⟩⟩
theorem F8{k:Tok}{l:Str}{b:Nat}{v:Value}{g:G}(h:(bldU k l b).holds v g):(bldA k l b).holds v g:=by
 obtain ⟨s,h1,h2⟩:=h;exact ⟨_,s,h1,.inr rfl,h2⟩
theorem Bx.weak{n:Nat}{agg:Bool}{T:TypeId}{A A':Asn}{b:Nat}{g:G}(hA:∀ v g,A.holds v g→A'.holds v g)(h:(Bx n agg T A b).holds g):(Bx n agg T A' b).holds g:=by
 obtain ⟨cs,h1,h2,h3,h4,h5,h6⟩:=h;exact ⟨cs,h1,h2,h3,h4,h5,hA _ _ h6⟩
theorem ug{T:TypeId}{k:Tok}{l:Str}{b:Nat}{g:G}(h:(Bx 2 true T (bldA k l b) b).holds g) :
  ∃ p s,g.w.heap[b]? =some (.cells #[.pointer p,s] T (0,0))∧g.S b=0∧(p=none∨p=some ⟨b,0,none⟩)∧(tO (tI .u8) k (bytesOf l)).holds s g:=by
 obtain ⟨cs,h1,h2,h3,h4,h5,p,s,h6,h7,h8⟩:=h;have:cs.toArray= #[.pointer p,s]:=by
  have:=congrArg Value.cells h6;simpa [mkVal,Value.cells] using this
 rw [this] at h1;exact ⟨p,s,h1,h5,h7,h8⟩
theorem Bd{T:TypeId}{A:Asn}{b:Nat}{g:G}{p:Option Addr}{k:Tok}{n:Nat}(h1:g.w.heap[b]? =some (.cells #[.pointer p,.slice k.addr n k.cap] T (0,0)))(h2:g.S b=0)(h3:A.holds (.agg #[.pointer p,.slice k.addr n k.cap]) g) :
  (Bx 2 true T A b).holds g:=by
 refine ⟨[.pointer p,.slice k.addr n k.cap],h1,rfl,fun h=>(by cases h),fun c hc=>?_,h2,h3⟩;simp at hc;rcases hc with rfl | rfl<;> rfl
section
variable {P:Program} {f:FuncId} {T:TypeId}
theorem aG.bldCheck(hu:∀ b w,w.cell? ⟨b,0,none⟩=some (.pointer (some ⟨b,0,none⟩))→Calls P f #[.pointer (some ⟨b,0,none⟩)] w fun e w'=>e= .returned (.tuple #[])∧w'=w)
  (hf:∀ b w,w.cell? ⟨b,0,none⟩=some (.pointer none)→w.shape? b=some (T,2)→w.frozen? ⟨b,0,none⟩=false→
   Calls P f #[.pointer (some ⟨b,0,none⟩)] w fun e w'=>e= .returned (.tuple #[])∧w'=w.setCell ⟨b,0,none⟩ (.pointer (some ⟨b,0,none⟩)))
  (key:Nat) (k:Tok) (l:Str) (b:Nat):aG P f [Bp b 0] [(key,Bx 2 true T (bldA k l b) b)] (fun _:Unit=>Asn.eq (.tuple #[])) (fun _=>[(key,Bx 2 true T (bldU k l b) b)]):=by
 intro g vs hvs hr hd
 match vs,hvs with
 | [v],hvs=>
  have hv:v= .pointer (some ⟨b,0,none⟩):=hvs.1;subst hv;obtain ⟨p,s,h1,hS,hp,hs⟩:=ug (hr _ (List.mem_singleton.2 rfl));have hs':=hs;obtain ⟨hse,hs2,hs3,hs4⟩:=hs';rcases hp with rfl | rfl
  ·refine (hf b g.w (by simp [World.cell?,h1]) (by simp [World.shape?,h1]) (by simp [World.frozen?,h1])).mono ?_;rintro e w' ⟨rfl,rfl⟩;have hlt:=(Array.getElem?_eq_some_iff.1 h1).1;have e:Ext (· =b) g ⟨g.w.setCell ⟨b,0,none⟩ (.pointer (some ⟨b,0,none⟩)),g.S⟩:=
    wN g.S rfl rfl rfl (by simp [World.setCell]) (fun x _ hx=>⟨heap_setCell_other _ _ _ _ hx,rfl⟩) (fun x hx=>by rw [show x=b from hx];assumption)
   have hk:∀ x,x=b ↔ Rs.blks [(key,Bx 2 true T (bldA k l b) b)] x:=fun x=>(fw rfl).symm;refine ⟨(),_,_,rfl,rfl,e.mono (fun x hx=>(hk x).1 hx),rfl,fun y hy=>?_,List.pairwise_singleton _ _,fun x hx=>.inl ((hk x).1 ((fw rfl).1 hx))⟩;rw [List.mem_singleton.1 hy];have h2:=heap_setCell_same g.w b 0 (.pointer (some ⟨b,0,none⟩)) (cs:=[.pointer none,s]) h1;rw [hse] at h2;refine Bd (k:=k) (n:=(bytesOf l).length) h2 hS ?_;rw [←hse];exact ⟨s,rfl,(tO (tI .u8) k (bytesOf l)).mono e hs⟩
  ·refine (hu b g.w (by simp [World.cell?,h1])).mono ?_;rintro e w' ⟨rfl,rfl⟩;refine ⟨(),_,g,rfl,rfl,Ext.refl _ _,rfl,fun y hy=>?_,List.pairwise_singleton _ _,fun x hx=>.inl ((fw rfl).2 ((fw rfl).1 hx))⟩;rw [List.mem_singleton.1 hy];rw [hse] at h1;refine Bd (k:=k) (n:=(bytesOf l).length) h1 hS ?_;rw [←hse];exact ⟨s,rfl,hs⟩
theorem aG.bldString{B U S I E:TypeId}(hU:P.underlying U=some (.pointer E))(hc:P.cellsOf E=1)
  (hw:∀ (b:Nat) (p v:Value) (n:Int) (q:Option Addr) (r:ByteArray) (w w1 w2:World),w.heap[b]? =some (.cells #[p,v] T (0,0))→(∃ ao m c,v= .slice ao m c∧n=(m:Int))→w1.heap[b]? =w.heap[b]?→
   (Builtin.unsafeSliceData_ #[B] U #[v]).run P w.drew= .ok (.pointer q) w1→(Builtin.unsafeString_ #[U,I] S #[.pointer q,.int .i64 n]).run P w1= .ok (.string r) w2→
   Calls P f #[.pointer (some ⟨b,0,none⟩)] w fun e w'=>e= .returned (.string r)∧w'=w2)
  (key okey:Nat) (k:Tok) (l:Str) (b:Nat):aG P f [Bp b 0] [(key,Bx 2 true T (bldA k l b) b),(okey,Own (tI .u8) E k l.length)] (fun _:Unit=>tS.is l) (fun _=>[]):=by
 intro g vs hvs hr hd
 match vs,hvs with
 | [v],hvs=>
  have hv:v= .pointer (some ⟨b,0,none⟩):=hvs.1;subst hv;obtain ⟨p,s,h1,hS,hp,hse,hs2,hs3,hs4⟩:=ug (hr _ List.mem_cons_self);have hown:(Own (tI .u8) E k l.length).holds g:=hr _ (List.mem_cons_of_mem _ (List.mem_singleton.2 rfl));have hbl:(bytesOf l).length=l.length:=by simp [bytesOf]
  rw [hbl] at hse hs2 hs3;have hlt:=(Array.getElem?_eq_some_iff.1 h1).1;have fin:∀ (q:Option Addr) (w1 w2:World) (r:ByteArray),r=Dec.str l→w1.heap[b]? =g.w.heap[b]?→(Builtin.unsafeSliceData_ #[B] U #[s]).run P g.w.drew= .ok (.pointer q) w1→
    (Builtin.unsafeString_ #[U,I] S #[.pointer q,.int .i64 (l.length:Int)]).run P w1= .ok (.string r) w2→
    Ext (Rs.blks [(key,Bx 2 true T (bldA k l b) b),(okey,Own (tI .u8) E k l.length)]) g ⟨w2,g.S⟩→
    Calls P f #[.pointer (some ⟨b,0,none⟩)] g.w fun e w'=>∃ x:Unit,∃ v g',g'.w=w'∧e= .returned v∧Ext (Rs.blks [(key,Bx 2 true T (bldA k l b) b),(okey,Own (tI .u8) E k l.length)]) g g'∧(tS.is l).holds v g'∧
     Rs.all [] g'∧Rs.dis []∧(∀ b',Rs.blks [] b'→Rs.blks [(key,Bx 2 true T (bldA k l b) b),(okey,Own (tI .u8) E k l.length)] b'∨g.w.heap.size≤b'):=by
   intro q w1 w2 r hr' he hSD hUS e;subst hr';refine (hw b (.pointer p) s l.length q _ g.w w1 w2 h1 ⟨_,_,_,hse,rfl⟩ he hSD hUS).mono ?_;rintro e' w' ⟨rfl,rfl⟩;exact ⟨(),_,_,rfl,rfl,e,⟨_,⟨rfl,hs3⟩,rfl⟩,fun y hy=>(by cases hy),List.Pairwise.nil,fun b' ⟨y,hy,_⟩=>by cases hy⟩
  by_cases h0:l= []
  ·subst h0;rw [List.length_nil] at hse;have hn:∀ (q:Option Addr) (w1:World),(Builtin.unsafeString_ #[U,I] S #[.pointer q,.int .i64 (([]:Str).length:Int)]).run P w1= .ok (.string .empty) w1:=fun q w1=>Lib.run_unsafeString_none w1 U I S q;have hee:ByteArray.empty=Dec.str []:=rfl;cases k with
   | none=>
    refine fin none g.w.drew g.w.drew _ hee rfl (by rw [hse];rfl) (hn none _) ?_;exact ((Ext.drew No g).no)
   | some kp=>
    obtain ⟨cur,hh,hcs,hle,hm,hSk⟩:=hown;by_cases hc0:kp.2=0
    ·have hSD:(Builtin.unsafeSliceData_ #[B] U #[s]).run P g.w.drew= .ok (.pointer (some ⟨g.w.heap.size,0,none⟩)) (g.w.drew.alloc (.view ⟨kp.1,0,none⟩ E)):=by rw [hse];show (Builtin.unsafeSliceData_ #[B] U #[.slice (some ⟨kp.1,0,none⟩) 0 kp.2]).run P g.w.drew=_;rw [hc0];exact Lib.run_unsafeSliceData_zero g.w.drew #[B] U E hU ⟨kp.1,0,none⟩ 0 (E,cur.size) (by have hg':g.w.drew.heap[kp.1]? =some (.cells cur E (0,0)):=hh;simp [World.shape?,hg'])
     refine fin _ _ _ _ hee (heap_alloc_old g.w.drew _ hlt) hSD (hn _ _) ?_;have e:=(Ext.drew No g).trans' (Ext.alloc No g.drew (.view ⟨kp.1,0,none⟩ E) (g.S g.w.heap.size));have hfe:(fun x=>if x=g.w.heap.size then g.S g.w.heap.size else g.S x)=g.S:=by funext x;split<;> simp_all
     have e2:Ext No g ⟨g.w.drew.alloc (.view ⟨kp.1,0,none⟩ E),fun x=>if x=g.w.heap.size then g.S g.w.heap.size else g.S x⟩:=e;rw [hfe] at e2;exact e2.no
    ·have hSD:(Builtin.unsafeSliceData_ #[B] U #[s]).run P g.w.drew= .ok (.pointer (some ⟨kp.1,0,none⟩)) g.w.drew:=by rw [hse];exact Lib.run_unsafeSliceData_row g.w.drew #[B] U ⟨kp.1,0,none⟩ 0 kp.2 hc0
     refine fin _ g.w.drew _ _ hee rfl hSD (hn _ _) ?_;exact ((Ext.drew No g).no)
  ·have hl0:l.length≠0:=by simpa using h0
   cases k with
   | none=>exact absurd hown hl0
   | some kp=>
    obtain ⟨cur,hh,hcs,hle,hm,hSk⟩:=hown;have hsz1:(tI .u8).size=1:=rfl;have hSD:(Builtin.unsafeSliceData_ #[B] U #[s]).run P g.w.drew= .ok (.pointer (some ⟨kp.1,0,none⟩)) g.w.drew:=by
     rw [hse];exact Lib.run_unsafeSliceData_row g.w.drew #[B] U ⟨kp.1,0,none⟩ l.length kp.2 (by omega)
    have hrow:Row (tI .u8) g (some ⟨kp.1,0,none⟩) (bytesOf l):=hs4;have hUS:=Lib.run_unsafeString_row (P:=P) g.w.drew U I S E hU hc kp.1 cur.size (by have hg':g.w.drew.heap[kp.1]? =some (.cells cur E (0,0)):=hh;simp [World.shape?,hg']) l h0 (by rw [hcs,hsz1];omega) (by unfold lim at hs3;omega) (fun j x hx=>by
     obtain ⟨ds,hd1,hd2⟩:=hrow.2 j (x.toNat:Int) (by simp [bytesOf,hx]);have hd3:ds= [.int .u8 (x.toNat:Int)]:=hd1.1;subst hd3;have:=(hd2 0 _ rfl).2;rw [Addr.add_lit];have h4:0+j*(tI .u8).size+0=0+j:=by rw [hsz1];omega
     rw [h4] at this;exact this)
    refine fin _ g.w.drew _ _ rfl rfl hSD hUS ?_;refine Ew g.S ?_ ?_ ?_ ?_ ?_ ?_ ?_
    ·unfold World.freeze;rw [if_neg hl0];rfl
    ·unfold World.freeze;rw [if_neg hl0];rfl
    ·unfold World.freeze;rw [if_neg hl0];rfl
    ·unfold World.freeze;rw [if_neg hl0];simp
    ·intro x _ hx;refine ⟨?_,rfl⟩;unfold World.freeze;rw [if_neg hl0];simp only [Array.getElem?_modify];rw [if_neg (fun e=>hx ⟨_,List.mem_cons_of_mem _ (List.mem_singleton.2 rfl),by rw [←e];rfl⟩)];rfl
    ·intro x i v _ hv;refine ⟨hv.1,?_⟩;have:=hv.2;unfold World.freeze;rw [if_neg hl0];simp only [World.cell?,Array.getElem?_modify] at this ⊢;show (match (if kp.1=x then _ else g.w.heap[x]?) with | some (.cells c _ _)=>_ | _=>none)=_;by_cases hx:kp.1=x
     ·subst hx;rw [if_pos rfl];rw [hh] at this;have hh':g.w.drew.heap[kp.1]? =some (.cells cur E (0,0)):=hh;rw [hh'];exact this
     ·rw [if_neg hx];exact this
    ·intro x n _ hv;refine ⟨?_,hv.2⟩;have:=hv.1;unfold World.freeze;rw [if_neg hl0];simp only [rowN,Array.getElem?_modify] at this ⊢;show Option.bind (if kp.1=x then _ else g.w.heap[x]?) whl=_;by_cases hx:kp.1=x
     ·subst hx;rw [if_pos rfl];rw [hh] at this;have hh':g.w.drew.heap[kp.1]? =some (.cells cur E (0,0)):=hh;rw [hh'];exact this
     ·rw [if_neg hx];exact this
theorem aG.bldGrow{c:FuncId}{E:TypeId}(hu:∀ b w,w.cell? ⟨b,0,none⟩=some (.pointer (some ⟨b,0,none⟩))→Calls P c #[.pointer (some ⟨b,0,none⟩)] w fun e w'=>e= .returned (.tuple #[])∧w'=w)
  (hf:∀ b w,w.cell? ⟨b,0,none⟩=some (.pointer none)→w.shape? b=some (T,2)→w.frozen? ⟨b,0,none⟩=false→
   Calls P c #[.pointer (some ⟨b,0,none⟩)] w fun e w'=>e= .returned (.tuple #[])∧w'=w.setCell ⟨b,0,none⟩ (.pointer (some ⟨b,0,none⟩)))
  (hw:∀ (b n:Nat) (w w1:World),(Calls P c #[.pointer (some ⟨b,0,none⟩)] w fun e w'=>e= .returned (.tuple #[])∧w'=w1)→w1.heap[b]? =some (.cells #[.pointer (some ⟨b,0,none⟩),.slice none 0 0] T (0,0))→n≤281474976710656→
   Calls P f #[.pointer (some ⟨b,0,none⟩),.int .i64 n] w fun e w'=>e= .returned (.tuple #[])∧(w'=w1.drew∨ ∃ cs:Array Value,n≤cs.size∧(n≤maxLen→cs.size≤maxLen)∧
    w'=((w1.setCell ⟨b,1,none⟩ (.slice (some ⟨w1.heap.size,0,none⟩) 0 cs.size)).alloc (.cells cs E)).drew.drew.drew.drew))
  (key okey:Nat) (n:Int) (b:Nat) {u:Unit} (hn:growC n=some u) :
  aG P f [Bp b 0,(tI .i64).is n] [(key,Bx 2 true T (bldA none [] b) b),(okey,Own (tI .u8) E none 0)] (fun _:Tok=>Asn.eq (.tuple #[])) (fun k=>[(key,Bx 2 true T (bldA k [] b) b),(okey,Own (tI .u8) E k 0)]):=by
 have hn':0≤n∧n≤274877906944:=by
  unfold growC at hn;split at hn
  ·assumption
  ·cases hn
 obtain ⟨m,rfl⟩:∃ m:Nat,n=(m:Int):=⟨n.toNat,by omega⟩
 intro g vs hvs hr hd
 match vs,hvs with
 | [v,v2],hvs=>
  have hv:v= .pointer (some ⟨b,0,none⟩):=hvs.1;subst hv;obtain ⟨cs2,hc2,hv2⟩:=hvs.2.1;have hv2':v2= .int .i64 (m:Int):=by rw [hv2,hc2.1];rfl
  subst hv2';obtain ⟨p,s,h1,hS,hp,hse,hs2,hs3,hs4⟩:=ug (hr _ List.mem_cons_self);have hlt:=(Array.getElem?_eq_some_iff.1 h1).1;have hs0:s= .slice none 0 0:=hse;subst hs0;have hin:Rs.blks [(key,Bx 2 true T (bldA none [] b) b),(okey,Own (tI .u8) E none 0)] b:=⟨_,List.mem_cons_self,rfl⟩
  -- behind the check
  obtain ⟨w1,hcall,e1,hh1⟩:∃ w1,(Calls P c #[.pointer (some ⟨b,0,none⟩)] g.w fun e w'=>e= .returned (.tuple #[])∧w'=w1)∧Ext (· =b) g ⟨w1,g.S⟩∧w1.heap[b]? =some (.cells #[.pointer (some ⟨b,0,none⟩),.slice none 0 0] T (0,0)):=by
   rcases hp with rfl | rfl
   ·refine ⟨_,hf b g.w (by simp [World.cell?,h1]) (by simp [World.shape?,h1]) (by simp [World.frozen?,h1]),?_,heap_setCell_same g.w b 0 (.pointer (some ⟨b,0,none⟩)) (cs:=[.pointer none,.slice none 0 0]) h1⟩;exact wN g.S rfl rfl rfl (by simp [World.setCell]) (fun x _ hx=>⟨heap_setCell_other _ _ _ _ hx,rfl⟩) (fun x hx=>by rw [show x=b from hx];assumption)
   ·exact ⟨_,hu b g.w (by simp [World.cell?,h1]),Ext.refl _ _,h1⟩
  refine (hw b m g.w w1 hcall hh1 (by omega)).mono ?_;rintro e w' ⟨rfl,rfl | ⟨cs,hcs1,hcs2,rfl⟩⟩
  ·have e2:=e1.trans' (Ext.drew No ⟨w1,g.S⟩);refine ⟨none,_,_,rfl,rfl,e2.mono (fun x hx=>by rw [show x=b from hx];exact hin),rfl,fun y hy=>?_,List.pairwise_cons.2 ⟨fun y hy b' hb' hyb=>?_,List.pairwise_singleton _ _⟩,fun x ⟨y,hy,hyb⟩=>?_⟩
   ·rcases List.mem_cons.1 hy with rfl | hy
    ·exact Bd (k:=none) (n:=0) hh1 hS ⟨_,_,rfl,.inr rfl,rfl,Nat.le_refl _,Nat.zero_le _,rfl⟩
    ·rw [List.mem_singleton.1 hy];exact rfl
   ·rw [List.mem_singleton.1 hy] at hyb;cases hyb
   ·rcases List.mem_cons.1 hy with rfl | hy
    ·exact .inl (by rw [←Option.some.inj hyb];exact hin)
    ·rw [List.mem_singleton.1 hy] at hyb;cases hyb
  ·let z:Nat:=w1.heap.size;have hzs:g.w.heap.size≤z:=e1.size;let w2:World:=(w1.setCell ⟨b,1,none⟩ (.slice (some ⟨z,0,none⟩) 0 cs.size)).alloc (.cells cs E);have hsz2:(w1.setCell ⟨b,1,none⟩ (.slice (some ⟨z,0,none⟩) 0 cs.size)).heap.size=z:=by simp [World.setCell,z]
   have hbz:b<z:=Nat.lt_of_lt_of_le hlt hzs;have hb2:w2.heap[b]? =some (.cells #[.pointer (some ⟨b,0,none⟩),.slice (some ⟨z,0,none⟩) 0 cs.size] T (0,0)):=by
    show (World.alloc _ _).heap[b]? =_;rw [heap_alloc_old _ _ (by rw [hsz2];exact hbz)];exact heap_setCell_same w1 b 1 _ (cs:=[.pointer (some ⟨b,0,none⟩),.slice none 0 0]) hh1
   have hz2:w2.heap[z]? =some (.cells cs E (0,0)):=by
    have:=heap_alloc_new (w1.setCell ⟨b,1,none⟩ (.slice (some ⟨z,0,none⟩) 0 cs.size)) (.cells cs E);rw [hsz2] at this;exact this
   have e:Ext (· =b) g ⟨w2.drew.drew.drew.drew,fun x=>if x=z then 0 else g.S x⟩:=by
    refine wN _ e1.os e1.tape e1.output ?_ (fun x hx hxb=>⟨?_,by rw [if_neg (by omega)]⟩) (fun x hx=>by rw [show x=b from hx];assumption)
    ·show _≤w2.heap.size;have:w2.heap.size=z+1:=by show (World.alloc _ _).heap.size=_;simp [hsz2]
     omega
    ·show w2.heap[x]? =_;show (World.alloc _ _).heap[x]? =_;rw [heap_alloc_old _ _ (by rw [hsz2];omega),heap_setCell_other _ _ _ _ hxb];exact (e1.same x hx hxb).1
   refine ⟨some (z,cs.size),_,_,rfl,rfl,e.mono (fun x hx=>by rw [show x=b from hx];exact hin),rfl,fun y hy=>?_,List.pairwise_cons.2 ⟨fun y hy b' hb' hyb=>?_,List.pairwise_singleton _ _⟩,fun x ⟨y,hy,hyb⟩=>?_⟩
   ·rcases List.mem_cons.1 hy with rfl | hy
    ·refine Bd (k:=some (z,cs.size)) (n:=0) hb2 ?_ ⟨_,_,rfl,.inr rfl,rfl,Nat.zero_le _,Nat.zero_le _,?_⟩
     ·show (if b=z then 0 else g.S b)=0;rw [if_neg (by omega)];exact hS
     ·exact ⟨.inl rfl,fun i x hx=>by simp [bytesOf] at hx⟩
    ·rw [List.mem_singleton.1 hy];refine ⟨cs,hz2,(Nat.mul_one _).symm,Nat.zero_le _,hcs2 (by unfold maxLen;omega),?_⟩;show (if z=z then 0 else g.S z)=_;rw [if_pos rfl,Nat.zero_mul]
   ·rw [List.mem_singleton.1 hy] at hyb;have h3:b'=b:=(Option.some.inj hb').symm;have h4:b'=z:=(Option.some.inj hyb).symm;omega
   ·rcases List.mem_cons.1 hy with rfl | hy
    ·exact .inl (by rw [←Option.some.inj hyb];exact hin)
    ·rw [List.mem_singleton.1 hy] at hyb;have h4:x=z:=(Option.some.inj hyb).symm;exact .inr (by omega)
end
section
variable {P:Program} {N:Nat} {g0:G} {T0:Nat→Prop} {env:Env} {res:Rs} {d:Option Tmp} {ty:TypeId} {pos:String} {aft:Array Edge} {gd:Option (Nat×Bool)}
theorem Op1.Hw{T T':TypeId}{k:Tok}{l:Str}{b:Nat}{x:Operand}(key:Nat)(hg:∀ w,(isAgg T).run P w= .ok false w)(hs:∀ w,(sizeOf T).run P w= .ok 1 w)(hr:findR key res=some (Bx 2 true T' (bldU k l b) b))(hx:Opd env x (Bp b 1):=by exact .tmp rfl) :
  Op1 P ⟨d,.load T x,ty,pos,aft,gd⟩ env res (tO (tI .u8) k (bytesOf l)):=
 Op1.same fun a g hc=>by
  obtain ⟨p,s,h1,hS,hp,h6⟩:=ug (Bx.weak (fun _ _=>F8) (Bx.at hr hc));have hv:a.eval x= .pointer (some ⟨b,1,none⟩):=hx a g hc.henv;have:=iI (P:=P) hg hs (w:=g.w) (b:=b) (o:=1) (cs:=[s]) rfl (fun _=>rfl) (fun j v hj=>by
   have hj0:j=0:=by have:=(List.getElem?_eq_some_iff.1 hj).1;simp at this;exact this
   subst hj0;rw [cell_of_row _ _ _ _ _ _ h1];simpa using hj)
  exact ⟨s,by simp [execOp,hv,Instr.loadAt,Instr.sureAddr,this,mkVal],h6⟩
theorem OpR.storeBld{T T':TypeId}{k k':Tok}{l l':Str}{b:Nat}{x y:Operand}(key:Nat)(hs:∀ w,(sizeOf T).run P w= .ok 1 w)
  (hr:res.pick [key]= [(key,Bx 2 true T' (bldU k l b) b)]) (hx:Opd env x (Bp b 1):=by exact .tmp rfl)(hy:Opd env y (tO (tI .u8) k' (bytesOf l')):=by exact .tmp rfl) :
  OpR P ⟨none,.store T x y,ty,pos,aft,gd⟩ env res [key] (fun _:Unit=>Asn.any) (fun _=>[(key,Bx 2 true T' (bldU k' l' b) b)]):=
 OpR.storeAt key hs (aF.o (tI .u8) k' (bytesOf l')) hr hx hy (by omega) (fun g g' cs ds e h1 h2 h3 h4=>by
  obtain ⟨s,h5,h6⟩:=h2;have h7:cs= [.pointer (some ⟨b,0,none⟩),s]:=by
   have:=congrArg Value.cells h5;simpa [mkVal,Value.cells] using congrArg Array.toList this
  subst h7
  match ds,h4 with
  | [c],_=>exact ⟨c,rfl,(tO (tI .u8) k' (bytesOf l')).mono e h3⟩)
theorem zP(l:Str):Lib.strCells (Dec.str l)=(bytesOf l).map (fun n=>Value.int .u8 n):=by
 simp [Lib.strCells,Dec.str,bytesOf]
theorem Cells.str(g:G)(l:Str):Cells (tI .u8) g (Lib.strCells (Dec.str l)) (bytesOf l):=by
 have hsz:(tI .u8).size=1:=rfl;refine ⟨?_,fun c hc=>?_,fun i x hx=>?_⟩
 ·rw [zP,List.length_map,hsz,Nat.mul_one]
 ·exact Lib.strCells_oneCell _ c hc
 ·have hx':x∈bytesOf l:=List.mem_of_getElem? hx;obtain ⟨u,_,hu⟩:=List.mem_map.1 hx';refine ⟨[.int .u8 x],⟨rfl,by rw [←hu,inR8];have:=u.toNat_lt;omega⟩,fun j v hj=>?_⟩;have hj0:j=0:=by have:=(List.getElem?_eq_some_iff.1 hj).1;simp at this;exact this
  subst hj0;rw [zP,hsz,Nat.mul_one,Nat.add_zero,List.getElem?_map,hx];simpa using hj
theorem OpR.appendS{E T U:TypeId}{s x:Operand}{k:Tok}{l m r:Str}{key:Nat}(h:Dec.appC l m=some r)(hT:P.underlying T=some (.slice E))(hU:P.underlying U=some .string)(hE:ElAt P E (tI .u8))(hs:Opd env s (tO (tI .u8) k (bytesOf l)))
  (hx:Opd env x (tS.is m)) (hr:res.pick [key]= [(key,Own (tI .u8) E k l.length)]) :
  OpR P ⟨d,.call ⟨.builtin .append,#[s,x],#[T,U]⟩,ty,pos,aft,gd⟩ env res [key] (fun k':Tok=>tO (tI .u8) k' (bytesOf r)) (fun k'=>[(key,Own (tI .u8) E k' r.length)]):=by
 obtain ⟨rfl,hl⟩:=vG h;clear h;intro a g K Q hc hd hK;obtain ⟨i,z,hi,hz,hsz,hby,hzs⟩:=hE.row;obtain ⟨hv,hc1,hl1,hrow⟩:=hs a g hc.henv;obtain ⟨hxv,hxl⟩:=hx.atStr hc;have hb1:∀ y:Str,(bytesOf y).length=y.length:=fun y=>by simp [bytesOf]
 have hba:bytesOf (l++m)=bytesOf l++bytesOf m:=by simp [bytesOf]
 have hone:(tI .u8).size=1:=rfl;rw [hone] at hsz hzs;rw [hb1] at hv hc1 hl1;have hres:(Own (tI .u8) E k l.length).holds g:=by
  have:(key,Own (tI .u8) E k l.length)∈res.pick [key]:=by rw [hr];simp
  exact hc.hres _ (List.mem_filter.1 this).1
 have hlim:l.length+m.length≤lim:=by unfold r9 at hl;unfold lim;omega
 have hblk:∀ b,(res.pick [key]).blks b ↔ (k.map Prod.fst)=some b:=by
  intro b;rw [hr];constructor
  ·rintro ⟨y,hy,hb⟩;simp at hy;subst hy;exact hb
  ·intro hb;exact ⟨_,List.mem_singleton.2 rfl,hb⟩
 have run:∀ v w',(Builtin.append_ #[T,U] ty #[a.eval s,a.eval x]).run P g.w= .ok v w'→K (a.put d v) w'→
   Oper.wp P ⟨d,.call ⟨.builtin .append,#[s,x],#[T,U]⟩,ty,pos,aft,gd⟩ a g.w K Q:=by
  intro v w' hrun hK';unfold Oper.wp execOp;simp only [resolve,invoke,builtin,Sem.run_bind,Sem.run_pure,Result.andThen_ok,List.map_toArray,List.map_cons,List.map_nil,hrun];exact hK'
 rw [hv,hxv] at run;have done:∀ (k':Tok) v g',Ext (res.pick [key]).blks g g'→(tO (tI .u8) k' (bytesOf (l++m))).holds v g'→(Own (tI .u8) E k' (l++m).length).holds g'→(∀ b,(k'.map Prod.fst)=some b→(k.map Prod.fst)=some b∨g.w.heap.size≤b)→K (a.put d v) g'.w:=by
  intro k' v g' e h1 h2 h3;refine hK k' v g' e h1 (fun y hy=>by rw [List.mem_singleton.1 hy];exact h2) (List.pairwise_singleton _ _) ?_;rintro b ⟨y,hy,hb⟩;rw [List.mem_singleton.1 hy] at hb;rcases h3 b hb with h | h
  ·exact .inl ((hblk b).2 h)
  ·exact .inr h
 let news:List Value:=Lib.strCells (Dec.str m);have hnc:Cells (tI .u8) g news (bytesOf m):=Cells.str g m;have hnl:news.length=m.length:=by rw [hnc.1,hb1,hone,Nat.mul_one]
 have hsm:(Dec.str m).size=m.length:=jZ m;have h48:(l.length+m.length)*i.bytes≤140737488355328:=by
  have:=Nat.mul_le_mul hl hby;unfold r9 at this;omega
 cases k with
 | none=>
  have hx0:l= []:=by
   have:bytesOf l= []:=hrow;simpa [bytesOf] using this
  subst hx0;by_cases hm:m= []
  ·subst hm;have hf:=Lib.run_firstCells_string (P:=P) g.w 1 (Dec.str []);refine run (.slice none 0 0) g.w ?_ ?_
   ·show (Builtin.append_ #[T,U] ty #[.slice none 0 0,.string (Dec.str [])]).run P g.w=_;have h0:(Dec.str []).size=0:=rfl;rw [h0] at hf;simp [Builtin.append_,run_underlying hT,run_underlying hU,sizeOf,typeInfo,hi,hsz,Builtin.lenOf,h0,hf]
   ·exact done none _ g (Ext.refl _ _) ⟨rfl,Nat.le_refl _,Nat.zero_le _,rfl⟩ rfl (fun b hb=>by cases hb)
  ·have hm0:0<m.length:=List.length_pos_iff.2 hm;have hrun:=run_append_nil_string (P:=P) g.w T U ty E i z hT hU hi hz (Dec.str m) (by rw [hsm];exact hm0) (by rw [hsm];unfold lim at hlim;omega) (by rw [hsm];simp only [List.length_nil,Nat.zero_add] at h48;omega);rw [hsm] at hrun;have ec:((Dec.str m).data.map fun b=>Value.int .u8 b.toNat)=news.toArray:=by apply Array.ext';simp [news,Lib.strCells]
   rw [ec] at hrun;refine run _ _ hrun ?_;have hge:=grownCap_ge g.w m.length 0 E;have hcm:grownCap g.w m.length 0 E≤maxLen:=grownCap_le_maxLen g.w m.length 0 E (by unfold lim at hxl;unfold maxLen;omega);let cur:Array Value:=news.toArray++Builtin.zeroCells z.cells (grownCap g.w m.length 0 E-m.length);let g':G:=g.drew.alloc (.cells cur E) m.length;have e:Ext No g g':=(Ext.drew No g).trans' (Ext.alloc No _ _ _);have hheap:g'.w.heap[g.w.heap.size]? =some (.cells cur E (0,0)):=heap_alloc_new g.w.drew _;refine done (some (g.w.heap.size,grownCap g.w m.length 0 E)) _ g' e.no ?_ ?_ (fun b hb=>by simp at hb;exact .inr (by omega))
   ·refine ⟨by simp [Tok.addr,Tok.cap,hb1],by rw [hb1];simpa [Tok.cap] using hge,by rw [hb1];simpa using hxl,?_⟩;show Row (tI .u8) g' (some ⟨g.w.heap.size,0,none⟩) (bytesOf ([]++m));rw [List.nil_append];refine (hnc.mono e).row fun j v hj=>⟨?_,?_⟩
    ·show 0+j<(if g.w.heap.size=g.w.heap.size then _ else _);rw [if_pos rfl];have:=(List.getElem?_eq_some_iff.1 hj).1;omega
    ·rw [cell_of_row _ _ _ _ _ _ hheap];have hjl:=(List.getElem?_eq_some_iff.1 hj).1;simp only [cur,Nat.zero_add];rw [Array.getElem?_append_left (by simpa using hjl)];simpa using hj
   ·refine ⟨cur,hheap,?_,by simpa using hge,hcm,?_⟩
    ·simp only [cur,Array.size_append,List.size_toArray,size_zeroCells,hzs,hnl,hone,Nat.mul_one];omega
    ·show (if g.w.heap.size=g.w.heap.size then _ else _)=_;rw [if_pos rfl,hone];simp
 | some q=>
  obtain ⟨cur,hheap,hcs,hncap,hcm,hS⟩:=hres;rw [hone,Nat.mul_one] at hcs hS;have hold:∀ (j:Nat) v,(cur.toList.take l.length)[j]? =some v→g.w.cell? ((⟨q.1,0,none⟩:Addr).add j)=some v:=fun j v hj=>by
   rw [Addr.add_lit,cell_of_row _ _ _ _ _ _ hheap];rw [List.getElem?_take] at hj;split at hj
   ·simpa using hj
   ·cases hj
  have holdl:(cur.toList.take l.length).length=l.length:=by
   have hcl:cur.toList.length=cur.size:=by simp
   rw [List.length_take,hcl];exact Nat.min_eq_left (by omega)
  have hrow':Row (tI .u8) g (some ⟨q.1,0,none⟩) (bytesOf l):=hrow;by_cases hroom:l.length+m.length≤q.2
  ·have hrun:=Lib.run_append_room_string (P:=P) g.w T U ty E i hT hU hi hsz q.1 l.length q.2 cur hheap (Dec.str m) (by rw [hsm];exact hroom) (by rw [hsm];omega);rw [hsm] at hrun;refine run _ _ hrun ?_;let new:Array Value:=(cur.toList.take l.length++news++cur.toList.drop (l.length+m.length)).toArray;let g':G:=⟨g.w.setRow q.1 new,fun x=>if x=q.1 then l.length+m.length else g.S x⟩
   have hnew:∀ i' v,i'< g.S q.1→cur[i']? =some v→new[i']? =some v:=by
    intro i' v h1 h2;rw [hS] at h1;simp only [new,List.getElem?_toArray];rw [List.append_assoc,List.getElem?_append_left (by rw [holdl];exact h1),List.getElem?_take,if_pos h1];simpa using h2
   have e:Ext (fun x=>x=q.1) g g':=qi hheap (by rw [hS];omega) hnew (fun _=>by simp [new];omega);have e':Ext (res.pick [key]).blks g g':=e.mono fun x hx=>(hblk x).2 (by simp [hx]);have hheap':g'.w.heap[q.1]? =some (.cells new E (0,0)):=setRow_heap g.w q.1 cur new E _ hheap;refine done (some q) _ g' e' ?_ ?_ (fun b hb=>.inl hb)
   ·refine ⟨by simp [Tok.addr,Tok.cap,hb1],by rw [hb1];simpa [Tok.cap] using hroom,by rw [hb1];simpa using hlim,?_⟩;show Row (tI .u8) g' (some ⟨q.1,0,none⟩) (bytesOf (l++m));rw [hba];refine ⟨.inr rfl,fun j y hj=>?_⟩;by_cases hjx:j<l.length
    ·rw [List.getElem?_append_left (by rw [hb1];exact hjx)] at hj;exact ((hrow'.2 j y hj).mono e)
    ·rw [List.getElem?_append_right (by rw [hb1];omega),hb1] at hj;obtain ⟨ds,h1,h2⟩:=hnc.2.2 _ y hj;refine ⟨ds,h1,fun mm v hm=>?_⟩;have h3:=h2 mm v hm;have hml:=(List.getElem?_eq_some_iff.1 h3).1;rw [hone,Nat.mul_one] at h3 hml;refine ⟨?_,?_⟩
     ·show 0+j*(tI .u8).size+mm<(if q.1=q.1 then _ else _);rw [if_pos rfl,hone,Nat.mul_one];omega
     ·rw [cell_of_row _ _ _ _ _ _ hheap',hone,Nat.mul_one];simp only [new,List.getElem?_toArray];rw [List.append_assoc,List.getElem?_append_right (by rw [holdl];omega),holdl,List.getElem?_append_left (by omega)];rw [show 0+j+mm-l.length=(j-l.length)+mm by omega];exact h3
   ·refine ⟨new,hheap',?_,by simpa using hroom,hcm,?_⟩
    ·simp only [new,List.size_toArray,List.length_append,holdl,List.length_drop,Array.length_toList,hone,Nat.mul_one];omega
    ·show (if q.1=q.1 then _ else _)=_;rw [if_pos rfl,hone];simp
  ·have hfit2:Builtin.nextslicecap (l.length+(Dec.str m).size) q.2*i.bytes≤281474976710656:=growslice_fits (by rw [hsm];omega) (by rw [hsm];omega);have hrun:=Lib.run_append_grow_string (P:=P) g.w T U ty E i z hT hU hi hz ⟨q.1,0,none⟩ l.length q.2 (cur.toList.take l.length) (by rw [holdl,hsz,Nat.mul_one]) hold (Dec.str m) (by rw [hsm];omega) (by rw [hsm];unfold lim at hlim;omega) hfit2;rw [hsm] at hrun;refine run _ _ hrun ?_;have hge:=grownCap_ge g.w (l.length+m.length) q.2 E;have hcm':grownCap g.w (l.length+m.length) q.2 E≤maxLen:=grownCap_le_maxLen g.w _ q.2 E (by unfold lim at hlim;unfold maxLen;omega);let cur':Array Value:=(cur.toList.take l.length).toArray++news.toArray++Builtin.zeroCells z.cells (grownCap g.w (l.length+m.length) q.2 E-(l.length+m.length));let g':G:=g.drew.alloc (.cells cur' E) (l.length+m.length);have e:Ext No g g':=(Ext.drew No g).trans' (Ext.alloc No _ _ _);have hheap':g'.w.heap[g.w.heap.size]? =some (.cells cur' E (0,0)):=heap_alloc_new g.w.drew _;refine done (some (g.w.heap.size,grownCap g.w (l.length+m.length) q.2 E)) _ g' e.no ?_ ?_ (fun b hb=>by simp at hb;exact .inr (by omega))
   ·refine ⟨by simp [Tok.addr,Tok.cap,hb1],by rw [hb1];simpa [Tok.cap] using hge,by rw [hb1];simpa using hlim,?_⟩;show Row (tI .u8) g' (some ⟨g.w.heap.size,0,none⟩) (bytesOf (l++m));rw [hba];obtain ⟨olds,hoc,hoh⟩:=Row.cells hrow'.2;have hol:olds.length=l.length:=by rw [hoc.1,hb1,hone,Nat.mul_one]
    have heq:olds=cur.toList.take l.length:=by
     apply List.ext_getElem?;intro j;by_cases hj:j<olds.length
     ·have h1:=(hoh j _ (List.getElem?_eq_getElem hj)).2;rw [cell_of_row _ _ _ _ _ _ hheap] at h1;rw [List.getElem?_eq_getElem hj,List.getElem?_take,if_pos (by omega)];simpa using h1.symm
     ·rw [List.getElem?_eq_none (by omega),List.getElem?_eq_none (by rw [holdl];omega)]
    refine ((hoc.append hnc).mono e).row fun j v hj=>⟨?_,?_⟩
    ·show 0+j<(if g.w.heap.size=g.w.heap.size then _ else _);rw [if_pos rfl];have:=(List.getElem?_eq_some_iff.1 hj).1;rw [List.length_append] at this;omega
    ·rw [cell_of_row _ _ _ _ _ _ hheap'];have hjl:=(List.getElem?_eq_some_iff.1 hj).1;simp only [cur',Nat.zero_add];rw [Array.getElem?_append_left (by rw [←heq];simpa using hjl)];rw [←heq];simpa using hj
   ·refine ⟨cur',hheap',?_,by simpa using hge,hcm',?_⟩
    ·have e1:(cur.toList.take l.length).toArray.size=l.length:=by rw [List.size_toArray,holdl]
     simp only [cur',Array.size_append,e1,List.size_toArray,hnl,size_zeroCells,hzs,hone,Nat.mul_one];omega
    ·show (if g.w.heap.size=g.w.heap.size then _ else _)=_;rw [if_pos rfl,hone];simp
theorem OpR.allocBld{T:TypeId}(key:Nat)(hz:∀ w,(zeroValue T).run P w= .ok (.agg #[.pointer none,.slice none 0 0]) w) :
  OpR P ⟨d,.alloc T,ty,pos,aft,gd⟩ env res [] (fun b:Nat=>Bp b 0) (fun b=>[(key,Bx 2 true T (bldA none [] b) b)]):=by
 intro a g K Q hc hd hK;have hrun:(execOp a.eval ⟨d,.alloc T,ty,pos,aft,gd⟩).run P g.w= .ok (.value (.pointer (some ⟨g.w.heap.size,0,none⟩))) (g.alloc (.cells #[.pointer none,.slice none 0 0] T) 0).w:=by simp [execOp,Instr.alloc,hz,newVar,newRow,Value.cells,G.alloc]
 show Oper.upon P _ a K Q ((execOp a.eval _).run P g.w);rw [hrun];refine hK g.w.heap.size _ (g.alloc (.cells #[.pointer none,.slice none 0 0] T) 0) (Ext.alloc _ _ _ _) rfl (fun y hy=>?_) (List.pairwise_singleton _ _) (fun b hb=>.inr (by rw [(fw rfl).1 hb];exact Nat.le_refl _));rw [List.mem_singleton.1 hy];exact AX (cs:=[.pointer none,.slice none 0 0]) rfl (fun h=>(by cases h)) (fun c hc=>by
  simp at hc;rcases hc with rfl | rfl<;> rfl) ⟨none,.slice none 0 0,rfl,.inl rfl,rfl,Nat.le_refl _,Nat.zero_le _,rfl⟩
theorem W.retAny2{g0:G}{rin:Rs}{fn:Func}{ρ:Type}{A:ρ→Asn}{out:ρ→Rs}{ks:List KF}{t u:Tmp}(x:ρ)(hr:fn.results= #[.tmp t,.tmp u])(hA:A x=Asn.any)(hs:RSub (out x) res):W P N g0 rin.blks .ret ks (Bo P fn g0 rin A out) env res:=
 W.ret fun a g hst=>⟨hst.dfr,_,results_tmp2 hr _ _ _,x,_,g,rfl,rfl,hst.ext,by rw [hA];exact trivial,fun y hy=>hst.hres y (hs.mem y hy),hs.dis hst.dis,fun b ⟨y,hy,hyb⟩=>(hst.own b ⟨y,hs.mem y hy,hyb⟩).symm⟩
end
end Go.Dec
