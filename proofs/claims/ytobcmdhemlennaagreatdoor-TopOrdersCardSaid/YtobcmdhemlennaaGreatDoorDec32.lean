import Derived.Test.YtobcmdhemlennaaGreatDoorReadF
import Derived.Lib.AppendStr
import Derived.Lib.UnsafeStr
import Derived.Lib.Split
import Derived.Lib.SplitLaws
import Derived.Shelf.Strings.Split
import Derived.Shelf.Small.Strs
import Derived.Shelf.Vars
import Derived.Shelf.Strings.Repeat
import Derived.Shelf.Sort.Plain
import Derived.Shelf.Slices.In.SortNone
import Derived.Shelf.Slices.Reverse
import Derived.Test.YtobcmdhemlennaaGreatDoorProg
import Derived.Test.YtobcmdhemlennaaGreatDoorDec17
import Derived.Lib.LaidTab
import Derived.Lib.ItoaLen
import Derived.Lib.AtoiAllCases
import Derived.Lib.AppendIntMem
import Derived.Below
import Derived.Lib.IndexMore
import Derived.Lib.BufferRead
import Derived.Lib.AtoiErrMem
/-
  A variable of two cells, its own address and a slice of bytes, that is written by calls alone: builders of strings.
-/
set_option linter.unusedVariables false
set_option linter.unusedSimpArgs false
namespace Go.Dec
open Go
variable {E T:TypeId}{k:Tok}{l:Str}{x:Operand}
theorem heap_setCell_other(w:World)(b i:Nat)(v:Value){x:Nat}(h:x≠b):(w.setCell ⟨b,i,none⟩ v).heap[x]? =w.heap[x]?:=by
 simp only [World.setCell,Array.getElem?_modify];rw [if_neg (λe=>h e.symm)]
theorem heap_setCell_same(w:World)(b i:Nat)(v:Value){cs:List Value}(h:w.heap[b]? =some (.cells cs.toArray T (0,0))):(w.setCell ⟨b,i,none⟩ v).heap[b]? =some (.cells (cs.set i v).toArray T (0,0)):=by
 simp [World.setCell,Array.getElem?_modify,h]
def bldA(k:Tok)(l:Str)(b:Nat):Asn:=
 ⟨λv g=>∃ p s,v= .agg #[.pointer p,s]/\(p=none\/p=some ⟨b,0,none⟩)/\(tO (tI .u8) k (bytesOf l)).holds s g,λe ⟨p,s,h1,h2,h3⟩=>⟨p,s,h1,h2,(tO (tI .u8) k (bytesOf l)).mono e h3⟩⟩
def bldU(k:Tok)(l:Str)(b:Nat):Asn:=
 ⟨λv g=>∃ s,v= .agg #[.pointer (some ⟨b,0,none⟩),s]/\(tO (tI .u8) k (bytesOf l)).holds s g,λe ⟨s,h1,h3⟩=>⟨s,h1,(tO (tI .u8) k (bytesOf l)).mono e h3⟩⟩
theorem NP{b:Nat}{v:Value}{g:G}(h:(bldU k l b).holds v g):(bldA k l b).holds v g:=by
 obtain ⟨s,h1,h2⟩:=h;exact ⟨_,s,h1,.inr rfl,h2⟩
theorem Bx.weak{n:Nat}{agg:Bool}{A A':Asn}{b:Nat}{g:G}(hA:∀ v g,A.holds v g->A'.holds v g)(h:(Bx n agg T A b).holds g):(Bx n agg T A' b).holds g:=by
 obtain ⟨cs,h1,h2,h3,h4,h5,h6⟩:=h;exact ⟨cs,h1,h2,h3,h4,h5,hA _ _ h6⟩
theorem xy{b:Nat}{g:G}(h:(Bx 2 true T (bldA k l b) b).holds g) :
  ∃ p s,g.w.heap[b]? =some (.cells #[.pointer p,s] T (0,0))/\g.S b=0/\(p=none\/p=some ⟨b,0,none⟩)/\(tO (tI .u8) k (bytesOf l)).holds s g:=by
 obtain ⟨cs,h1,h2,h3,h4,h5,p,s,h6,h7,h8⟩:=h;have:cs.toArray= #[.pointer p,s]:=by
  have:=congrArg Value.cells h6;simpa [mkVal,Value.cells] using this
 rw [this] at h1;exact ⟨p,s,h1,h5,h7,h8⟩
theorem EI{A:Asn}{b:Nat}{g:G}{p:Option Addr}{n:Nat}(h1:g.w.heap[b]? =some (.cells #[.pointer p,.slice k.addr n k.cap] T (0,0)))(h2:g.S b=0)(h3:A.holds (.agg #[.pointer p,.slice k.addr n k.cap]) g) :
  (Bx 2 true T A b).holds g:=by
 refine ⟨[.pointer p,.slice k.addr n k.cap],h1,rfl,λh=>(by cases h),λc hc=>?_,h2,h3⟩;simp at hc;rcases hc with rfl | rfl<;> rfl
section
variable {P:Program} {f:FuncId} {T:TypeId}
theorem aR.bldCheck(hu:∀ b w,w.cell? ⟨b,0,none⟩=some (.pointer (some ⟨b,0,none⟩))->Calls P f #[.pointer (some ⟨b,0,none⟩)] w λe w'=>e= .returned (.tuple #[])/\w'=w)
  (hf:∀ b w,w.cell? ⟨b,0,none⟩=some (.pointer none)->w.shape? b=some (T,2)->w.frozen? ⟨b,0,none⟩=false->
   Calls P f #[.pointer (some ⟨b,0,none⟩)] w λe w'=>e= .returned (.tuple #[])/\w'=w.setCell ⟨b,0,none⟩ (.pointer (some ⟨b,0,none⟩)))
  (key:Nat) (k:Tok) (l:Str) (b:Nat):aR P f [Bp b 0] [(key,Bx 2 true T (bldA k l b) b)] (λ_:Unit=>Asn.eq (.tuple #[])) (λ_=>[(key,Bx 2 true T (bldU k l b) b)]):=by
 intro g vs hvs hr hd
 match vs,hvs with
 | [v],hvs=>
  have hv:v= .pointer (some ⟨b,0,none⟩):=hvs.1;subst hv;obtain ⟨p,s,h1,hS,hp,hs⟩:=xy (hr _ (List.mem_singleton.2 rfl));have hs':=hs;obtain ⟨hse,hs2,hs3,hs4⟩:=hs';rcases hp with rfl | rfl
  .refine (hf b g.w (by simp [World.cell?,h1]) (by simp [World.shape?,h1]) (by simp [World.frozen?,h1])).mono ?_;rintro e w' ⟨rfl,rfl⟩;have hlt:=(Array.getElem?_eq_some_iff.1 h1).1;have e:Ext (· =b) g ⟨g.w.setCell ⟨b,0,none⟩ (.pointer (some ⟨b,0,none⟩)),g.S⟩:=
    yC g.S rfl rfl rfl (by simp [World.setCell]) (λx _ hx=>⟨heap_setCell_other _ _ _ _ hx,rfl⟩) (λx hx=>by rw [show x=b from hx];assumption)
   have hk:∀ x,x=b ↔ Rs.blks [(key,Bx 2 true T (bldA k l b) b)] x:=λx=>(iA rfl).symm;refine ⟨(),_,_,rfl,rfl,e.mono (λx hx=>(hk x).1 hx),rfl,λy hy=>?_,List.pairwise_singleton _ _,λx hx=>.inl ((hk x).1 ((iA rfl).1 hx))⟩;rw [List.mem_singleton.1 hy];have h2:=heap_setCell_same g.w b 0 (.pointer (some ⟨b,0,none⟩)) (cs:=[.pointer none,s]) h1;rw [hse] at h2;refine EI (k:=k) (n:=(bytesOf l).length) h2 hS ?_;rw [<-hse];exact ⟨s,rfl,(tO (tI .u8) k (bytesOf l)).mono e hs⟩
  .refine (hu b g.w (by simp [World.cell?,h1])).mono ?_;rintro e w' ⟨rfl,rfl⟩;refine ⟨(),_,g,rfl,rfl,Ext.refl _ _,rfl,λy hy=>?_,List.pairwise_singleton _ _,λx hx=>.inl ((iA rfl).2 ((iA rfl).1 hx))⟩;rw [List.mem_singleton.1 hy];rw [hse] at h1;refine EI (k:=k) (n:=(bytesOf l).length) h1 hS ?_;rw [<-hse];exact ⟨s,rfl,hs⟩
theorem aR.bldString{B U S I:TypeId}(hU:P.underlying U=some (.pointer E))(hc:P.cellsOf E=1)
  (hw:∀ (b:Nat) (p v:Value) (n:Int) (q:Option Addr) (r:ByteArray) (w w1 w2:World),w.heap[b]? =some (.cells #[p,v] T (0,0))->(∃ ao m c,v= .slice ao m c/\n=(m:Int))->w1.heap[b]? =w.heap[b]?->
   (Builtin.unsafeSliceData_ #[B] U #[v]).run P w.drew= .ok (.pointer q) w1->(Builtin.unsafeString_ #[U,I] S #[.pointer q,.int .i64 n]).run P w1= .ok (.string r) w2->
   Calls P f #[.pointer (some ⟨b,0,none⟩)] w λe w'=>e= .returned (.string r)/\w'=w2)
  (key okey:Nat) (k:Tok) (l:Str) (b:Nat):aR P f [Bp b 0] [(key,Bx 2 true T (bldA k l b) b),(okey,Own (tI .u8) E k l.length)] (λ_:Unit=>tS.is l) (λ_=>[]):=by
 intro g vs hvs hr hd
 match vs,hvs with
 | [v],hvs=>
  have hv:v= .pointer (some ⟨b,0,none⟩):=hvs.1;subst hv;obtain ⟨p,s,h1,hS,hp,hse,hs2,hs3,hs4⟩:=xy (hr _ List.mem_cons_self);have hown:(Own (tI .u8) E k l.length).holds g:=hr _ (List.mem_cons_of_mem _ (List.mem_singleton.2 rfl));have hbl:(bytesOf l).length=l.length:=by simp [bytesOf]
  rw [hbl] at hse hs2 hs3;have hlt:=(Array.getElem?_eq_some_iff.1 h1).1;have fin:∀ (q:Option Addr) (w1 w2:World) (r:ByteArray),r=Dec.str l->w1.heap[b]? =g.w.heap[b]?->(Builtin.unsafeSliceData_ #[B] U #[s]).run P g.w.drew= .ok (.pointer q) w1->
    (Builtin.unsafeString_ #[U,I] S #[.pointer q,.int .i64 (l.length:Int)]).run P w1= .ok (.string r) w2->
    Ext (Rs.blks [(key,Bx 2 true T (bldA k l b) b),(okey,Own (tI .u8) E k l.length)]) g ⟨w2,g.S⟩->
    Calls P f #[.pointer (some ⟨b,0,none⟩)] g.w λe w'=>∃ x:Unit,∃ v g',g'.w=w'/\e= .returned v/\Ext (Rs.blks [(key,Bx 2 true T (bldA k l b) b),(okey,Own (tI .u8) E k l.length)]) g g'/\(tS.is l).holds v g'/\
     Rs.all [] g'/\Rs.dis []/\(∀ b',Rs.blks [] b'->Rs.blks [(key,Bx 2 true T (bldA k l b) b),(okey,Own (tI .u8) E k l.length)] b'\/g.w.heap.size<=b'):=by
   intro q w1 w2 r hr' he hSD hUS e;subst hr';refine (hw b (.pointer p) s l.length q _ g.w w1 w2 h1 ⟨_,_,_,hse,rfl⟩ he hSD hUS).mono ?_;rintro e' w' ⟨rfl,rfl⟩;exact ⟨(),_,_,rfl,rfl,e,⟨_,⟨rfl,hs3⟩,rfl⟩,λy hy=>(by cases hy),List.Pairwise.nil,λb' ⟨y,hy,_⟩=>by cases hy⟩
  by_cases h0:l= []
  .subst h0;rw [List.length_nil] at hse;have hn:∀ (q:Option Addr) (w1:World),(Builtin.unsafeString_ #[U,I] S #[.pointer q,.int .i64 (([]:Str).length:Int)]).run P w1= .ok (.string .empty) w1:=λq w1=>Lib.run_unsafeString_none w1 U I S q;have hee:ByteArray.empty=Dec.str []:=rfl;cases k with
   | none=>
    refine fin none g.w.drew g.w.drew _ hee rfl (by rw [hse];rfl) (hn none _) ?_;exact ((Ext.drew No g).no)
   | some kp=>
    obtain ⟨cur,hh,hcs,hle,hm,hSk⟩:=hown;by_cases hc0:kp.2=0
    .have hSD:(Builtin.unsafeSliceData_ #[B] U #[s]).run P g.w.drew= .ok (.pointer (some ⟨g.w.heap.size,0,none⟩)) (g.w.drew.alloc (.view ⟨kp.1,0,none⟩ E)):=by rw [hse];show (Builtin.unsafeSliceData_ #[B] U #[.slice (some ⟨kp.1,0,none⟩) 0 kp.2]).run P g.w.drew=_;rw [hc0];exact Lib.run_unsafeSliceData_zero g.w.drew #[B] U E hU ⟨kp.1,0,none⟩ 0 (E,cur.size) (by have hg':g.w.drew.heap[kp.1]? =some (.cells cur E (0,0)):=hh;simp [World.shape?,hg'])
     refine fin _ _ _ _ hee (heap_alloc_old g.w.drew _ hlt) hSD (hn _ _) ?_;have e:=(Ext.drew No g).trans' (Ext.alloc No g.drew (.view ⟨kp.1,0,none⟩ E) (g.S g.w.heap.size));have hfe:(λx=>if x=g.w.heap.size then g.S g.w.heap.size else g.S x)=g.S:=by funext x;split<;> simp_all
     have e2:Ext No g ⟨g.w.drew.alloc (.view ⟨kp.1,0,none⟩ E),λx=>if x=g.w.heap.size then g.S g.w.heap.size else g.S x⟩:=e;rw [hfe] at e2;exact e2.no
    .have hSD:(Builtin.unsafeSliceData_ #[B] U #[s]).run P g.w.drew= .ok (.pointer (some ⟨kp.1,0,none⟩)) g.w.drew:=by rw [hse];exact Lib.run_unsafeSliceData_row g.w.drew #[B] U ⟨kp.1,0,none⟩ 0 kp.2 hc0
     refine fin _ g.w.drew _ _ hee rfl hSD (hn _ _) ?_;exact ((Ext.drew No g).no)
  .have hl0:l.length≠0:=by simpa using h0
   cases k with
   | none=>exact absurd hown hl0
   | some kp=>
    obtain ⟨cur,hh,hcs,hle,hm,hSk⟩:=hown;have hsz1:(tI .u8).size=1:=rfl;have hSD:(Builtin.unsafeSliceData_ #[B] U #[s]).run P g.w.drew= .ok (.pointer (some ⟨kp.1,0,none⟩)) g.w.drew:=by
     rw [hse];exact Lib.run_unsafeSliceData_row g.w.drew #[B] U ⟨kp.1,0,none⟩ l.length kp.2 (by omega)
    have hrow:Row (tI .u8) g (some ⟨kp.1,0,none⟩) (bytesOf l):=hs4;have hUS:=Lib.run_unsafeString_row (P:=P) g.w.drew U I S E hU hc kp.1 cur.size (by have hg':g.w.drew.heap[kp.1]? =some (.cells cur E (0,0)):=hh;simp [World.shape?,hg']) l h0 (by rw [hcs,hsz1];omega) (by unfold lim at hs3;omega) (λj x hx=>by
     obtain ⟨ds,hd1,hd2⟩:=hrow.2 j (x.toNat:Int) (by simp [bytesOf,hx]);have hd3:ds= [.int .u8 (x.toNat:Int)]:=hd1.1;subst hd3;have:=(hd2 0 _ rfl).2;rw [Addr.add_lit];have h4:0+j*(tI .u8).size+0=0+j:=by rw [hsz1];omega
     rw [h4] at this;exact this)
    refine fin _ g.w.drew _ _ rfl rfl hSD hUS ?_;refine Km g.S ?_ ?_ ?_ ?_ ?_ ?_ ?_
    .unfold World.freeze;rw [if_neg hl0];rfl
    .unfold World.freeze;rw [if_neg hl0];rfl
    .unfold World.freeze;rw [if_neg hl0];rfl
    .unfold World.freeze;rw [if_neg hl0];simp
    .intro x _ hx;refine ⟨?_,rfl⟩;unfold World.freeze;rw [if_neg hl0];simp only [Array.getElem?_modify];rw [if_neg (λe=>hx ⟨_,List.mem_cons_of_mem _ (List.mem_singleton.2 rfl),by rw [<-e];rfl⟩)];rfl
    .intro x i v _ hv;refine ⟨hv.1,?_⟩;have:=hv.2;unfold World.freeze;rw [if_neg hl0];simp only [World.cell?,Array.getElem?_modify] at this ⊢;show (match (if kp.1=x then _ else g.w.heap[x]?) with | some (.cells c _ _)=>_ | _=>none)=_;by_cases hx:kp.1=x
     .subst hx;rw [if_pos rfl];rw [hh] at this;have hh':g.w.drew.heap[kp.1]? =some (.cells cur E (0,0)):=hh;rw [hh'];exact this
     .rw [if_neg hx];exact this
    .intro x n _ hv;refine ⟨?_,hv.2⟩;have:=hv.1;unfold World.freeze;rw [if_neg hl0];simp only [rowN,Array.getElem?_modify] at this ⊢;show Option.bind (if kp.1=x then _ else g.w.heap[x]?) whl=_;by_cases hx:kp.1=x
     .subst hx;rw [if_pos rfl];rw [hh] at this;have hh':g.w.drew.heap[kp.1]? =some (.cells cur E (0,0)):=hh;rw [hh'];exact this
     .rw [if_neg hx];exact this
theorem aR.bldGrow{c:FuncId}(hu:∀ b w,w.cell? ⟨b,0,none⟩=some (.pointer (some ⟨b,0,none⟩))->Calls P c #[.pointer (some ⟨b,0,none⟩)] w λe w'=>e= .returned (.tuple #[])/\w'=w)
  (hf:∀ b w,w.cell? ⟨b,0,none⟩=some (.pointer none)->w.shape? b=some (T,2)->w.frozen? ⟨b,0,none⟩=false->
   Calls P c #[.pointer (some ⟨b,0,none⟩)] w λe w'=>e= .returned (.tuple #[])/\w'=w.setCell ⟨b,0,none⟩ (.pointer (some ⟨b,0,none⟩)))
  (hw:∀ (b n:Nat) (w w1:World),(Calls P c #[.pointer (some ⟨b,0,none⟩)] w λe w'=>e= .returned (.tuple #[])/\w'=w1)->w1.heap[b]? =some (.cells #[.pointer (some ⟨b,0,none⟩),.slice none 0 0] T (0,0))->n<=281474976710656->
   Calls P f #[.pointer (some ⟨b,0,none⟩),.int .i64 n] w λe w'=>e= .returned (.tuple #[])/\(w'=w1.drew\/ ∃ cs:Array Value,n<=cs.size/\(n<=maxLen->cs.size<=maxLen)/\
    w'=((w1.setCell ⟨b,1,none⟩ (.slice (some ⟨w1.heap.size,0,none⟩) 0 cs.size)).alloc (.cells cs E)).drew.drew.drew.drew))
  (key okey:Nat) (n:Int) (b:Nat) {u:Unit} (hn:growC n=some u) :
  aR P f [Bp b 0,(tI .i64).is n] [(key,Bx 2 true T (bldA none [] b) b),(okey,Own (tI .u8) E none 0)] (λ_:Tok=>Asn.eq (.tuple #[])) (λk=>[(key,Bx 2 true T (bldA k [] b) b),(okey,Own (tI .u8) E k 0)]):=by
 have hn':0<=n/\n<=274877906944:=by
  unfold growC at hn;split at hn
  .assumption
  .cases hn
 obtain ⟨m,rfl⟩:∃ m:Nat,n=(m:Int):=⟨n.toNat,by omega⟩
 intro g vs hvs hr hd
 match vs,hvs with
 | [v,v2],hvs=>
  have hv:v= .pointer (some ⟨b,0,none⟩):=hvs.1;subst hv;obtain ⟨cs2,hc2,hv2⟩:=hvs.2.1;have hv2':v2= .int .i64 (m:Int):=by rw [hv2,hc2.1];rfl
  subst hv2';obtain ⟨p,s,h1,hS,hp,hse,hs2,hs3,hs4⟩:=xy (hr _ List.mem_cons_self);have hlt:=(Array.getElem?_eq_some_iff.1 h1).1;have hs0:s= .slice none 0 0:=hse;subst hs0;have hin:Rs.blks [(key,Bx 2 true T (bldA none [] b) b),(okey,Own (tI .u8) E none 0)] b:=⟨_,List.mem_cons_self,rfl⟩
  -- behind the check
  obtain ⟨w1,hcall,e1,hh1⟩:∃ w1,(Calls P c #[.pointer (some ⟨b,0,none⟩)] g.w λe w'=>e= .returned (.tuple #[])/\w'=w1)/\Ext (· =b) g ⟨w1,g.S⟩/\w1.heap[b]? =some (.cells #[.pointer (some ⟨b,0,none⟩),.slice none 0 0] T (0,0)):=by
   rcases hp with rfl | rfl
   .refine ⟨_,hf b g.w (by simp [World.cell?,h1]) (by simp [World.shape?,h1]) (by simp [World.frozen?,h1]),?_,heap_setCell_same g.w b 0 (.pointer (some ⟨b,0,none⟩)) (cs:=[.pointer none,.slice none 0 0]) h1⟩;exact yC g.S rfl rfl rfl (by simp [World.setCell]) (λx _ hx=>⟨heap_setCell_other _ _ _ _ hx,rfl⟩) (λx hx=>by rw [show x=b from hx];assumption)
   .exact ⟨_,hu b g.w (by simp [World.cell?,h1]),Ext.refl _ _,h1⟩
  refine (hw b m g.w w1 hcall hh1 (by omega)).mono ?_;rintro e w' ⟨rfl,rfl | ⟨cs,hcs1,hcs2,rfl⟩⟩
  .have e2:=e1.trans' (Ext.drew No ⟨w1,g.S⟩);refine ⟨none,_,_,rfl,rfl,e2.mono (λx hx=>by rw [show x=b from hx];exact hin),rfl,λy hy=>?_,List.pairwise_cons.2 ⟨λy hy b' hb' hyb=>?_,List.pairwise_singleton _ _⟩,λx ⟨y,hy,hyb⟩=>?_⟩
   .rcases List.mem_cons.1 hy with rfl | hy
    .exact EI (k:=none) (n:=0) hh1 hS ⟨_,_,rfl,.inr rfl,rfl,Nat.le_refl _,Nat.zero_le _,rfl⟩
    .rw [List.mem_singleton.1 hy];exact rfl
   .rw [List.mem_singleton.1 hy] at hyb;cases hyb
   .rcases List.mem_cons.1 hy with rfl | hy
    .exact .inl (by rw [<-Option.some.inj hyb];exact hin)
    .rw [List.mem_singleton.1 hy] at hyb;cases hyb
  .let z:Nat:=w1.heap.size;have hzs:g.w.heap.size<=z:=e1.size;let w2:World:=(w1.setCell ⟨b,1,none⟩ (.slice (some ⟨z,0,none⟩) 0 cs.size)).alloc (.cells cs E);have hsz2:(w1.setCell ⟨b,1,none⟩ (.slice (some ⟨z,0,none⟩) 0 cs.size)).heap.size=z:=by simp [World.setCell,z]
   have hbz:b<z:=Nat.lt_of_lt_of_le hlt hzs;have hb2:w2.heap[b]? =some (.cells #[.pointer (some ⟨b,0,none⟩),.slice (some ⟨z,0,none⟩) 0 cs.size] T (0,0)):=by
    show (World.alloc _ _).heap[b]? =_;rw [heap_alloc_old _ _ (by rw [hsz2];exact hbz)];exact heap_setCell_same w1 b 1 _ (cs:=[.pointer (some ⟨b,0,none⟩),.slice none 0 0]) hh1
   have hz2:w2.heap[z]? =some (.cells cs E (0,0)):=by
    have:=heap_alloc_new (w1.setCell ⟨b,1,none⟩ (.slice (some ⟨z,0,none⟩) 0 cs.size)) (.cells cs E);rw [hsz2] at this;exact this
   have e:Ext (· =b) g ⟨w2.drew.drew.drew.drew,λx=>if x=z then 0 else g.S x⟩:=by
    refine yC _ e1.os e1.tape e1.output ?_ (λx hx hxb=>⟨?_,by rw [if_neg (by omega)]⟩) (λx hx=>by rw [show x=b from hx];assumption)
    .show _<=w2.heap.size;have:w2.heap.size=z+1:=by show (World.alloc _ _).heap.size=_;simp [hsz2]
     omega
    .show w2.heap[x]? =_;show (World.alloc _ _).heap[x]? =_;rw [heap_alloc_old _ _ (by rw [hsz2];omega),heap_setCell_other _ _ _ _ hxb];exact (e1.same x hx hxb).1
   refine ⟨some (z,cs.size),_,_,rfl,rfl,e.mono (λx hx=>by rw [show x=b from hx];exact hin),rfl,λy hy=>?_,List.pairwise_cons.2 ⟨λy hy b' hb' hyb=>?_,List.pairwise_singleton _ _⟩,λx ⟨y,hy,hyb⟩=>?_⟩
   .rcases List.mem_cons.1 hy with rfl | hy
    .refine EI (k:=some (z,cs.size)) (n:=0) hb2 ?_ ⟨_,_,rfl,.inr rfl,rfl,Nat.zero_le _,Nat.zero_le _,?_⟩
     .show (if b=z then 0 else g.S b)=0;rw [if_neg (by omega)];exact hS
     .exact ⟨.inl rfl,λi x hx=>by simp [bytesOf] at hx⟩
    .rw [List.mem_singleton.1 hy];refine ⟨cs,hz2,(Nat.mul_one _).symm,Nat.zero_le _,hcs2 (by unfold maxLen;omega),?_⟩;show (if z=z then 0 else g.S z)=_;rw [if_pos rfl,Nat.zero_mul]
   .rw [List.mem_singleton.1 hy] at hyb;have h3:b'=b:=(Option.some.inj hb').symm;have h4:b'=z:=(Option.some.inj hyb).symm;omega
   .rcases List.mem_cons.1 hy with rfl | hy
    .exact .inl (by rw [<-Option.some.inj hyb];exact hin)
    .rw [List.mem_singleton.1 hy] at hyb;have h4:x=z:=(Option.some.inj hyb).symm;exact .inr (by omega)
end
section
variable {P:Program} {N:Nat} {g0:G} {T0:Nat->Prop} {env:Env} {res:Rs} {d:Option Tmp} {ty:TypeId} {pos:String} {aft:Array Edge} {gd:Option (Nat×Bool)}
theorem Op1.QW{T':TypeId}{b:Nat}(key:Nat)(hg:∀ w,(isAgg T).run P w= .ok false w)(hs:∀ w,(sizeOf T).run P w= .ok 1 w)(hr:findR key res=some (Bx 2 true T' (bldU k l b) b))(hx:Opd env x (Bp b 1):=by exact .tmp rfl) :
  Op1 P ⟨d,.load T x,ty,pos,aft,gd⟩ env res (tO (tI .u8) k (bytesOf l)):=
 Op1.same λa g hc=>by
  obtain ⟨p,s,h1,hS,hp,h6⟩:=xy (Bx.weak (λ_ _=>NP) (Bx.at hr hc));have hv:a.eval x= .pointer (some ⟨b,1,none⟩):=hx a g hc.henv;have:=pG (P:=P) hg hs (w:=g.w) (b:=b) (o:=1) (cs:=[s]) rfl (λ_=>rfl) (λj v hj=>by
   have hj0:j=0:=by have:=(List.getElem?_eq_some_iff.1 hj).1;simp at this;exact this
   subst hj0;rw [cell_of_row _ _ _ _ _ _ h1];simpa using hj)
  exact ⟨s,by simp [execOp,hv,Instr.loadAt,Instr.sureAddr,this,mkVal],h6⟩
theorem OpR.storeBld{T':TypeId}{k':Tok}{l':Str}{b:Nat}{y:Operand}(key:Nat)(hs:∀ w,(sizeOf T).run P w= .ok 1 w)
  (hr:res.pick [key]= [(key,Bx 2 true T' (bldU k l b) b)]) (hx:Opd env x (Bp b 1):=by exact .tmp rfl)(hy:Opd env y (tO (tI .u8) k' (bytesOf l')):=by exact .tmp rfl) :
  OpR P ⟨none,.store T x y,ty,pos,aft,gd⟩ env res [key] (λ_:Unit=>Asn.any) (λ_=>[(key,Bx 2 true T' (bldU k' l' b) b)]):=
 OpR.storeAt key hs (bg.o (tI .u8) k' (bytesOf l')) hr hx hy (by omega) (λg g' cs ds e h1 h2 h3 h4=>by
  obtain ⟨s,h5,h6⟩:=h2;have h7:cs= [.pointer (some ⟨b,0,none⟩),s]:=by
   have:=congrArg Value.cells h5;simpa [mkVal,Value.cells] using congrArg Array.toList this
  subst h7
  match ds,h4 with
  | [c],_=>exact ⟨c,rfl,(tO (tI .u8) k' (bytesOf l')).mono e h3⟩)
theorem DD(l:Str):Lib.strCells (Dec.str l)=(bytesOf l).map (λn=>Value.int .u8 n):=by
 simp [Lib.strCells,Dec.str,bytesOf]
theorem Cells.str(g:G)(l:Str):Cells (tI .u8) g (Lib.strCells (Dec.str l)) (bytesOf l):=by
 have hsz:(tI .u8).size=1:=rfl;refine ⟨?_,λc hc=>?_,λi x hx=>?_⟩
 .rw [DD,List.length_map,hsz,Nat.mul_one]
 .exact Lib.strCells_oneCell _ c hc
 .have hx':x∈bytesOf l:=List.mem_of_getElem? hx;obtain ⟨u,_,hu⟩:=List.mem_map.1 hx';refine ⟨[.int .u8 x],⟨rfl,by rw [<-hu,inR8];have:=u.toNat_lt;omega⟩,λj v hj=>?_⟩;have hj0:j=0:=by have:=(List.getElem?_eq_some_iff.1 hj).1;simp at this;exact this
  subst hj0;rw [DD,hsz,Nat.mul_one,Nat.add_zero,List.getElem?_map,hx];simpa using hj
theorem OpR.appendS{U:TypeId}{s:Operand}{m r:Str}{key:Nat}(h:Dec.appC l m=some r)(hT:P.underlying T=some (.slice E))(hU:P.underlying U=some .string)(hE:ElAt P E (tI .u8))(hs:Opd env s (tO (tI .u8) k (bytesOf l)))
  (hx:Opd env x (tS.is m)) (hr:res.pick [key]= [(key,Own (tI .u8) E k l.length)]) :
  OpR P ⟨d,.call ⟨.builtin .append,#[s,x],#[T,U]⟩,ty,pos,aft,gd⟩ env res [key] (λk':Tok=>tO (tI .u8) k' (bytesOf r)) (λk'=>[(key,Own (tI .u8) E k' r.length)]):=by
 obtain ⟨rfl,hl⟩:=uQ h;clear h;intro a g K Q hc hd hK;obtain ⟨i,z,hi,hz,hsz,hby,hzs⟩:=hE.row;obtain ⟨hv,hc1,hl1,hrow⟩:=hs a g hc.henv;obtain ⟨hxv,hxl⟩:=hx.atStr hc;have hb1:∀ y:Str,(bytesOf y).length=y.length:=λy=>by simp [bytesOf]
 have hba:bytesOf (l++m)=bytesOf l++bytesOf m:=by simp [bytesOf]
 have hone:(tI .u8).size=1:=rfl;rw [hone] at hsz hzs;rw [hb1] at hv hc1 hl1;have hres:(Own (tI .u8) E k l.length).holds g:=by
  have:(key,Own (tI .u8) E k l.length)∈res.pick [key]:=by rw [hr];simp
  exact hc.hres _ (List.mem_filter.1 this).1
 have hlim:l.length+m.length<=lim:=by unfold vY at hl;unfold lim;omega
 have hblk:∀ b,(res.pick [key]).blks b ↔ (k.map Prod.fst)=some b:=by
  intro b;rw [hr];constructor
  .rintro ⟨y,hy,hb⟩;simp at hy;subst hy;exact hb
  .intro hb;exact ⟨_,List.mem_singleton.2 rfl,hb⟩
 have run:∀ v w',(Builtin.append_ #[T,U] ty #[a.eval s,a.eval x]).run P g.w= .ok v w'->K (a.put d v) w'->
   Oper.wp P ⟨d,.call ⟨.builtin .append,#[s,x],#[T,U]⟩,ty,pos,aft,gd⟩ a g.w K Q:=by
  intro v w' hrun hK';unfold Oper.wp execOp;simp only [resolve,invoke,builtin,Sem.run_bind,Sem.run_pure,Result.andThen_ok,List.map_toArray,List.map_cons,List.map_nil,hrun];exact hK'
 rw [hv,hxv] at run;have done:∀ (k':Tok) v g',Ext (res.pick [key]).blks g g'->(tO (tI .u8) k' (bytesOf (l++m))).holds v g'->(Own (tI .u8) E k' (l++m).length).holds g'->(∀ b,(k'.map Prod.fst)=some b->(k.map Prod.fst)=some b\/g.w.heap.size<=b)->K (a.put d v) g'.w:=by
  intro k' v g' e h1 h2 h3;refine hK k' v g' e h1 (λy hy=>by rw [List.mem_singleton.1 hy];exact h2) (List.pairwise_singleton _ _) ?_;rintro b ⟨y,hy,hb⟩;rw [List.mem_singleton.1 hy] at hb;rcases h3 b hb with h | h
  .exact .inl ((hblk b).2 h)
  .exact .inr h
 let news:List Value:=Lib.strCells (Dec.str m);have hnc:Cells (tI .u8) g news (bytesOf m):=Cells.str g m;have hnl:news.length=m.length:=by rw [hnc.1,hb1,hone,Nat.mul_one]
 have hsm:(Dec.str m).size=m.length:=nM m;have h48:(l.length+m.length)*i.bytes<=140737488355328:=by
  have:=Nat.mul_le_mul hl hby;unfold vY at this;omega
 cases k with
 | none=>
  have hx0:l= []:=by
   have:bytesOf l= []:=hrow;simpa [bytesOf] using this
  subst hx0;by_cases hm:m= []
  .subst hm;have hf:=Lib.run_firstCells_string (P:=P) g.w 1 (Dec.str []);refine run (.slice none 0 0) g.w ?_ ?_
   .show (Builtin.append_ #[T,U] ty #[.slice none 0 0,.string (Dec.str [])]).run P g.w=_;have h0:(Dec.str []).size=0:=rfl;rw [h0] at hf;simp [Builtin.append_,run_underlying hT,run_underlying hU,sizeOf,typeInfo,hi,hsz,Builtin.lenOf,h0,hf]
   .exact done none _ g (Ext.refl _ _) ⟨rfl,Nat.le_refl _,Nat.zero_le _,rfl⟩ rfl (λb hb=>by cases hb)
  .have hm0:0<m.length:=List.length_pos_iff.2 hm;have hrun:=run_append_nil_string (P:=P) g.w T U ty E i z hT hU hi hz (Dec.str m) (by rw [hsm];exact hm0) (by rw [hsm];unfold lim at hlim;omega) (by rw [hsm];simp only [List.length_nil,Nat.zero_add] at h48;omega);rw [hsm] at hrun;have ec:((Dec.str m).data.map λb=>Value.int .u8 b.toNat)=news.toArray:=by apply Array.ext';simp [news,Lib.strCells]
   rw [ec] at hrun;refine run _ _ hrun ?_;have hge:=grownCap_ge g.w m.length 0 E;have hcm:grownCap g.w m.length 0 E<=maxLen:=grownCap_le_maxLen g.w m.length 0 E (by unfold lim at hxl;unfold maxLen;omega);let cur:Array Value:=news.toArray++Builtin.zeroCells z.cells (grownCap g.w m.length 0 E-m.length);let g':G:=g.drew.alloc (.cells cur E) m.length;have e:Ext No g g':=(Ext.drew No g).trans' (Ext.alloc No _ _ _);have hheap:g'.w.heap[g.w.heap.size]? =some (.cells cur E (0,0)):=heap_alloc_new g.w.drew _;refine done (some (g.w.heap.size,grownCap g.w m.length 0 E)) _ g' e.no ?_ ?_ (λb hb=>by simp at hb;exact .inr (by omega))
   .refine ⟨by simp [Tok.addr,Tok.cap,hb1],by rw [hb1];simpa [Tok.cap] using hge,by rw [hb1];simpa using hxl,?_⟩;show Row (tI .u8) g' (some ⟨g.w.heap.size,0,none⟩) (bytesOf ([]++m));rw [List.nil_append];refine (hnc.mono e).row λj v hj=>⟨?_,?_⟩
    .show 0+j<(if g.w.heap.size=g.w.heap.size then _ else _);rw [if_pos rfl];have:=(List.getElem?_eq_some_iff.1 hj).1;omega
    .rw [cell_of_row _ _ _ _ _ _ hheap];have hjl:=(List.getElem?_eq_some_iff.1 hj).1;simp only [cur,Nat.zero_add];rw [Array.getElem?_append_left (by simpa using hjl)];simpa using hj
   .refine ⟨cur,hheap,?_,by simpa using hge,hcm,?_⟩
    .simp only [cur,Array.size_append,List.size_toArray,size_zeroCells,hzs,hnl,hone,Nat.mul_one];omega
    .show (if g.w.heap.size=g.w.heap.size then _ else _)=_;rw [if_pos rfl,hone];simp
 | some q=>
  obtain ⟨cur,hheap,hcs,hncap,hcm,hS⟩:=hres;rw [hone,Nat.mul_one] at hcs hS;have hold:∀ (j:Nat) v,(cur.toList.take l.length)[j]? =some v->g.w.cell? ((⟨q.1,0,none⟩:Addr).add j)=some v:=λj v hj=>by
   rw [Addr.add_lit,cell_of_row _ _ _ _ _ _ hheap];rw [List.getElem?_take] at hj;split at hj
   .simpa using hj
   .cases hj
  have holdl:(cur.toList.take l.length).length=l.length:=by
   have hcl:cur.toList.length=cur.size:=by simp
   rw [List.length_take,hcl];exact Nat.min_eq_left (by omega)
  have hrow':Row (tI .u8) g (some ⟨q.1,0,none⟩) (bytesOf l):=hrow;by_cases hroom:l.length+m.length<=q.2
  .have hrun:=Lib.run_append_room_string (P:=P) g.w T U ty E i hT hU hi hsz q.1 l.length q.2 cur hheap (Dec.str m) (by rw [hsm];exact hroom) (by rw [hsm];omega);rw [hsm] at hrun;refine run _ _ hrun ?_;let new:Array Value:=(cur.toList.take l.length++news++cur.toList.drop (l.length+m.length)).toArray;let g':G:=⟨g.w.setRow q.1 new,λx=>if x=q.1 then l.length+m.length else g.S x⟩
   have hnew:∀ i' v,i'< g.S q.1->cur[i']? =some v->new[i']? =some v:=by
    intro i' v h1 h2;rw [hS] at h1;simp only [new,List.getElem?_toArray];rw [List.append_assoc,List.getElem?_append_left (by rw [holdl];exact h1),List.getElem?_take,if_pos h1];simpa using h2
   have e:Ext (λx=>x=q.1) g g':=o8 hheap (by rw [hS];omega) hnew (λ_=>by simp [new];omega);have e':Ext (res.pick [key]).blks g g':=e.mono λx hx=>(hblk x).2 (by simp [hx]);have hheap':g'.w.heap[q.1]? =some (.cells new E (0,0)):=setRow_heap g.w q.1 cur new E _ hheap;refine done (some q) _ g' e' ?_ ?_ (λb hb=>.inl hb)
   .refine ⟨by simp [Tok.addr,Tok.cap,hb1],by rw [hb1];simpa [Tok.cap] using hroom,by rw [hb1];simpa using hlim,?_⟩;show Row (tI .u8) g' (some ⟨q.1,0,none⟩) (bytesOf (l++m));rw [hba];refine ⟨.inr rfl,λj y hj=>?_⟩;by_cases hjx:j<l.length
    .rw [List.getElem?_append_left (by rw [hb1];exact hjx)] at hj;exact ((hrow'.2 j y hj).mono e)
    .rw [List.getElem?_append_right (by rw [hb1];omega),hb1] at hj;obtain ⟨ds,h1,h2⟩:=hnc.2.2 _ y hj;refine ⟨ds,h1,λmm v hm=>?_⟩;have h3:=h2 mm v hm;have hml:=(List.getElem?_eq_some_iff.1 h3).1;rw [hone,Nat.mul_one] at h3 hml;refine ⟨?_,?_⟩
     .show 0+j*(tI .u8).size+mm<(if q.1=q.1 then _ else _);rw [if_pos rfl,hone,Nat.mul_one];omega
     .rw [cell_of_row _ _ _ _ _ _ hheap',hone,Nat.mul_one];simp only [new,List.getElem?_toArray];rw [List.append_assoc,List.getElem?_append_right (by rw [holdl];omega),holdl,List.getElem?_append_left (by omega)];rw [show 0+j+mm-l.length=(j-l.length)+mm by omega];exact h3
   .refine ⟨new,hheap',?_,by simpa using hroom,hcm,?_⟩
    .simp only [new,List.size_toArray,List.length_append,holdl,List.length_drop,Array.length_toList,hone,Nat.mul_one];omega
    .show (if q.1=q.1 then _ else _)=_;rw [if_pos rfl,hone];simp
  .have hfit2:Builtin.nextslicecap (l.length+(Dec.str m).size) q.2*i.bytes<=281474976710656:=growslice_fits (by rw [hsm];omega) (by rw [hsm];omega);have hrun:=Lib.run_append_grow_string (P:=P) g.w T U ty E i z hT hU hi hz ⟨q.1,0,none⟩ l.length q.2 (cur.toList.take l.length) (by rw [holdl,hsz,Nat.mul_one]) hold (Dec.str m) (by rw [hsm];omega) (by rw [hsm];unfold lim at hlim;omega) hfit2;rw [hsm] at hrun;refine run _ _ hrun ?_;have hge:=grownCap_ge g.w (l.length+m.length) q.2 E;have hcm':grownCap g.w (l.length+m.length) q.2 E<=maxLen:=grownCap_le_maxLen g.w _ q.2 E (by unfold lim at hlim;unfold maxLen;omega);let cur':Array Value:=(cur.toList.take l.length).toArray++news.toArray++Builtin.zeroCells z.cells (grownCap g.w (l.length+m.length) q.2 E-(l.length+m.length));let g':G:=g.drew.alloc (.cells cur' E) (l.length+m.length);have e:Ext No g g':=(Ext.drew No g).trans' (Ext.alloc No _ _ _);have hheap':g'.w.heap[g.w.heap.size]? =some (.cells cur' E (0,0)):=heap_alloc_new g.w.drew _;refine done (some (g.w.heap.size,grownCap g.w (l.length+m.length) q.2 E)) _ g' e.no ?_ ?_ (λb hb=>by simp at hb;exact .inr (by omega))
   .refine ⟨by simp [Tok.addr,Tok.cap,hb1],by rw [hb1];simpa [Tok.cap] using hge,by rw [hb1];simpa using hlim,?_⟩;show Row (tI .u8) g' (some ⟨g.w.heap.size,0,none⟩) (bytesOf (l++m));rw [hba];obtain ⟨olds,hoc,hoh⟩:=Row.cells hrow'.2;have hol:olds.length=l.length:=by rw [hoc.1,hb1,hone,Nat.mul_one]
    have heq:olds=cur.toList.take l.length:=by
     apply List.ext_getElem?;intro j;by_cases hj:j<olds.length
     .have h1:=(hoh j _ (List.getElem?_eq_getElem hj)).2;rw [cell_of_row _ _ _ _ _ _ hheap] at h1;rw [List.getElem?_eq_getElem hj,List.getElem?_take,if_pos (by omega)];simpa using h1.symm
     .rw [List.getElem?_eq_none (by omega),List.getElem?_eq_none (by rw [holdl];omega)]
    refine ((hoc.append hnc).mono e).row λj v hj=>⟨?_,?_⟩
    .show 0+j<(if g.w.heap.size=g.w.heap.size then _ else _);rw [if_pos rfl];have:=(List.getElem?_eq_some_iff.1 hj).1;rw [List.length_append] at this;omega
    .rw [cell_of_row _ _ _ _ _ _ hheap'];have hjl:=(List.getElem?_eq_some_iff.1 hj).1;simp only [cur',Nat.zero_add];rw [Array.getElem?_append_left (by rw [<-heq];simpa using hjl)];rw [<-heq];simpa using hj
   .refine ⟨cur',hheap',?_,by simpa using hge,hcm',?_⟩
    .have e1:(cur.toList.take l.length).toArray.size=l.length:=by rw [List.size_toArray,holdl]
     simp only [cur',Array.size_append,e1,List.size_toArray,hnl,size_zeroCells,hzs,hone,Nat.mul_one];omega
    .show (if g.w.heap.size=g.w.heap.size then _ else _)=_;rw [if_pos rfl,hone];simp
theorem OpR.allocBld(key:Nat)(hz:∀ w,(zeroValue T).run P w= .ok (.agg #[.pointer none,.slice none 0 0]) w) :
  OpR P ⟨d,.alloc T,ty,pos,aft,gd⟩ env res [] (λb:Nat=>Bp b 0) (λb=>[(key,Bx 2 true T (bldA none [] b) b)]):=by
 intro a g K Q hc hd hK;have hrun:(execOp a.eval ⟨d,.alloc T,ty,pos,aft,gd⟩).run P g.w= .ok (.value (.pointer (some ⟨g.w.heap.size,0,none⟩))) (g.alloc (.cells #[.pointer none,.slice none 0 0] T) 0).w:=by simp [execOp,Instr.alloc,hz,newVar,newRow,Value.cells,G.alloc]
 show Oper.upon P _ a K Q ((execOp a.eval _).run P g.w);rw [hrun];refine hK g.w.heap.size _ (g.alloc (.cells #[.pointer none,.slice none 0 0] T) 0) (Ext.alloc _ _ _ _) rfl (λy hy=>?_) (List.pairwise_singleton _ _) (λb hb=>.inr (by rw [(iA rfl).1 hb];exact Nat.le_refl _));rw [List.mem_singleton.1 hy];exact BI (cs:=[.pointer none,.slice none 0 0]) rfl (λh=>(by cases h)) (λc hc=>by
  simp at hc;rcases hc with rfl | rfl<;> rfl) ⟨none,.slice none 0 0,rfl,.inl rfl,rfl,Nat.le_refl _,Nat.zero_le _,rfl⟩
theorem W.retAny2{g0:G}{rin:Rs}{fn:Func}{ρ:Type}{A:ρ->Asn}{out:ρ->Rs}{ks:List KF}{t u:Tmp}(x:ρ)(hr:fn.results= #[.tmp t,.tmp u])(hA:A x=Asn.any)(hs:RSub (out x) res):W P N g0 rin.blks .ret ks (Bo P fn g0 rin A out) env res:=
 W.ret λa g hst=>⟨hst.dfr,_,results_tmp2 hr _ _ _,x,_,g,rfl,rfl,hst.ext,by rw [hA];exact trivial,λy hy=>hst.hres y (hs.mem y hy),hs.dis hst.dis,λb ⟨y,hy,hyb⟩=>(hst.own b ⟨y,hs.mem y hy,hyb⟩).symm⟩
end
end Go.Dec
/-
  strings.Split at a separator of one byte: what it computes, in the words of this logic; out of the library's contract.
-/
namespace Go.Dec
open Go
end Go.Dec
/-
  What the library's functions do at this program's numbers: laid by the kit's program.
-/
set_option maxRecDepth 100000
namespace Go.Proofs
open Go Go.Shelf
theorem kr{a b:Func}(h:a=b:=by kernel_rfl):some a=some b:=congrArg some h
def Tryz.F5:Go.Shelf.Ren:=⟨λ | 189=>62 | 125=>86 | 257=>85 | 128=>112 | 129=>113 | 294=>103 | 295=>104 | 296=>105 | 297=>106 | 298=>107 | 299=>108 | 216=>109 | 300=>110 | 301=>111 | 328=>127 | 329=>128 | 330=>129 | 331=>130 | 332=>131 | 215=>81 | 343=>140 | n=>n,λ | 28=>41 | 3=>3 | 46=>126 | 0=>0 | 51=>151 | 53=>153 | 4=>4 | 183=>144 | 182=>143 | 131=>148 | 5=>5 | 9=>9 | 218=>165 | 222=>169 | 228=>182 | 229=>183 | n=>n,λ | n=>n⟩
theorem Tryz.lays189:Go.Proofs.Lays.n189 Tryz.prog Tryz.F5:={
 mixed:=by kernel_rfl
 f125:=Tryz.func86.trans kr
 f128:=Tryz.func112.trans kr
 f129:=Tryz.func113.trans kr
 f189:=Tryz.func62.trans kr
 f215:=Tryz.func81.trans kr
 f216:=Tryz.func109.trans kr
 f257:=Tryz.func85.trans kr
 f294:=Tryz.func103.trans kr
 f295:=Tryz.func104.trans kr
 f296:=Tryz.func105.trans kr
 f297:=Tryz.func106.trans kr
 f298:=Tryz.func107.trans kr
 f299:=Tryz.func108.trans kr
 f300:=Tryz.func110.trans kr
 f301:=Tryz.func111.trans kr
 f328:=Tryz.func127.trans kr
 f329:=Tryz.func128.trans kr
 f330:=Tryz.func129.trans kr
 f331:=Tryz.func130.trans kr
 f332:=Tryz.func131.trans kr
 f343:=Tryz.func140.trans kr
 t0:=Tryz.underlying0
 a0:=Tryz.isAgg0
 z0:=Tryz.sizeOf0
 v0:=Tryz.zeroValue0
 t3:=Tryz.underlying3
 a3:=Tryz.isAgg3
 z3:=Tryz.sizeOf3
 v3:=Tryz.zeroValue3
 t4:=Tryz.underlying4
 a4:=Tryz.isAgg4
 z4:=Tryz.sizeOf4
 v4:=Tryz.zeroValue4
 t5:=Tryz.underlying5
 a5:=Tryz.isAgg5
 z5:=Tryz.sizeOf5
 v5:=Tryz.zeroValue5
 t9:=Tryz.underlying9
 a9:=Tryz.isAgg9
 z9:=Tryz.sizeOf9
 v9:=Tryz.zeroValue9
 t28:=Tryz.underlying41
 a28:=Tryz.isAgg41
 z28:=Tryz.sizeOf41
 v28:=Tryz.zeroValue41
 t46:=Tryz.underlying126
 a46:=Tryz.isAgg126
 z46:=Tryz.sizeOf126
 v46:=Tryz.zeroValue126
 t51:=Tryz.underlying151
 a51:=Tryz.isAgg151
 z51:=Tryz.sizeOf151
 v51:=Tryz.zeroValue151
 t53:=Tryz.underlying153
 a53:=Tryz.isAgg153
 z53:=Tryz.sizeOf153
 v53:=Tryz.zeroValue153
 t131:=Tryz.underlying148
 a131:=Tryz.isAgg148
 z131:=Tryz.sizeOf148
 v131:=Tryz.zeroValue148
 t182:=Tryz.underlying143
 a182:=Tryz.isAgg143
 z182:=Tryz.sizeOf143
 v182:=Tryz.zeroValue143
 t183:=Tryz.underlying144
 a183:=Tryz.isAgg144
 z183:=Tryz.sizeOf144
 v183:=Tryz.zeroValue144
 t218:=Tryz.underlying165
 a218:=Tryz.isAgg165
 z218:=Tryz.sizeOf165
 v218:=Tryz.zeroValue165
 t222:=Tryz.underlying169
 a222:=Tryz.isAgg169
 z222:=Tryz.sizeOf169
 v222:=Tryz.zeroValue169
 t228:=Tryz.underlying182
 a228:=Tryz.isAgg182
 z228:=Tryz.sizeOf182
 v228:=Tryz.zeroValue182
 t229:=Tryz.underlying183
 a229:=Tryz.isAgg183
 z229:=Tryz.sizeOf183
 v229:=Tryz.zeroValue183}
open Go.Sort Go.RowKit in
theorem Tryz.slices_Sort_int(blk off cap:Nat)(zs:List Int)(w:World)(hH:Holds (Value.int .i64) w blk off zs.toArray)(hblk:blk<w.heap.size)(hsz:zs.length<4611686018427387904) :
  Calls Tryz.prog 62 #[.slice (some ⟨blk,off,none⟩) zs.length cap] w λe w'=>
   e= .returned (.tuple #[])/\ ∃ n os,w'=grow (putRow (Value.int .i64) (Sort.ahead w n) blk off (zs.mergeSort λx y=>decide (x<=y)).toArray) os:=Any.slices_Sort_int Tryz.lays189 blk off cap zs w hH hblk hsz
def Tryz.AB:Go.Shelf.Ren:=⟨λ | 105=>297 | 212=>308 | 99=>309 | 165=>283 | 166=>284 | 170=>310 | 169=>285 | 263=>314 | 264=>315 | 206=>316 | 240=>300 | 241=>301 | 276=>311 | 277=>312 | n=>n,λ | 9=>9 | 3=>3 | 4=>4 | 20=>20 | 0=>0 | 46=>126 | 109=>299 | 5=>5 | 72=>271 | 76=>275 | 51=>151 | 146=>307 | 53=>153 | 148=>309 | 70=>268 | 37=>269 | 75=>274 | 127=>287 | 164=>304 | 80=>277 | n=>n,λ | n=>n⟩
theorem Tryz.lays105:Go.Proofs.Lays.n105 Tryz.prog Tryz.AB:={
 mixed:=by kernel_rfl
 f99:=Tryz.func309.trans kr
 f105:=Tryz.func297.trans kr
 f165:=Tryz.func283.trans kr
 f166:=Tryz.func284.trans kr
 f169:=Tryz.func285.trans kr
 f170:=Tryz.func310.trans kr
 f206:=Tryz.func316.trans kr
 f212:=Tryz.func308.trans kr
 f240:=Tryz.func300.trans kr
 f241:=Tryz.func301.trans kr
 f263:=Tryz.func314.trans kr
 f264:=Tryz.func315.trans kr
 f276:=Tryz.func311.trans kr
 f277:=Tryz.func312.trans kr
 t0:=Tryz.underlying0
 a0:=Tryz.isAgg0
 z0:=Tryz.sizeOf0
 v0:=Tryz.zeroValue0
 t3:=Tryz.underlying3
 a3:=Tryz.isAgg3
 z3:=Tryz.sizeOf3
 v3:=Tryz.zeroValue3
 t4:=Tryz.underlying4
 a4:=Tryz.isAgg4
 z4:=Tryz.sizeOf4
 v4:=Tryz.zeroValue4
 t5:=Tryz.underlying5
 a5:=Tryz.isAgg5
 z5:=Tryz.sizeOf5
 v5:=Tryz.zeroValue5
 t9:=Tryz.underlying9
 a9:=Tryz.isAgg9
 z9:=Tryz.sizeOf9
 v9:=Tryz.zeroValue9
 t20:=Tryz.underlying20
 a20:=Tryz.isAgg20
 z20:=Tryz.sizeOf20
 v20:=Tryz.zeroValue20
 t37:=Tryz.underlying269
 a37:=Tryz.isAgg269
 z37:=Tryz.sizeOf269
 v37:=Tryz.zeroValue269
 t46:=Tryz.underlying126
 a46:=Tryz.isAgg126
 z46:=Tryz.sizeOf126
 v46:=Tryz.zeroValue126
 t51:=Tryz.underlying151
 a51:=Tryz.isAgg151
 z51:=Tryz.sizeOf151
 v51:=Tryz.zeroValue151
 t53:=Tryz.underlying153
 a53:=Tryz.isAgg153
 z53:=Tryz.sizeOf153
 v53:=Tryz.zeroValue153
 t70:=Tryz.underlying268
 a70:=Tryz.isAgg268
 z70:=Tryz.sizeOf268
 v70:=Tryz.zeroValue268
 t72:=Tryz.underlying271
 a72:=Tryz.isAgg271
 z72:=Tryz.sizeOf271
 v72:=Tryz.zeroValue271
 t75:=Tryz.underlying274
 a75:=Tryz.isAgg274
 z75:=Tryz.sizeOf274
 v75:=Tryz.zeroValue274
 t76:=Tryz.underlying275
 a76:=Tryz.isAgg275
 z76:=Tryz.sizeOf275
 v76:=Tryz.zeroValue275
 t109:=Tryz.underlying299
 a109:=Tryz.isAgg299
 z109:=Tryz.sizeOf299
 v109:=Tryz.zeroValue299
 t127:=Tryz.underlying287
 a127:=Tryz.isAgg287
 z127:=Tryz.sizeOf287
 v127:=Tryz.zeroValue287
 t146:=Tryz.underlying307
 a146:=Tryz.isAgg307
 z146:=Tryz.sizeOf307
 v146:=Tryz.zeroValue307
 t148:=Tryz.underlying309
 a148:=Tryz.isAgg309
 z148:=Tryz.sizeOf309
 v148:=Tryz.zeroValue309
 t164:=Tryz.underlying304
 a164:=Tryz.isAgg304
 z164:=Tryz.sizeOf304
 v164:=Tryz.zeroValue304}
theorem Tryz.za:Builder.Extra Tryz.prog Tryz.AB:={
 sizeBuilder:=by kernel_rfl
 liesBuilder:=by kernel_rfl
 t5:=Tryz.underlying5
 a5:=Tryz.isAgg5
 z5:=Tryz.sizeOf5
 v5:=Tryz.zeroValue5
 infoByte:=by kernel_rfl
 cellsByte:=by kernel_rfl
 sizeByte:=by kernel_rfl
 neB5:=by decide}
open Go.RowKit Go.Lib in
theorem Tryz.strings_Repeat(s:ByteArray)(c:Nat)(w:World)(hc:c<=9223372036854775807)(hlen:s.size*c<=140737488355328) :
  Calls Tryz.prog 297 #[.string s,.int .i64 c] w λe w'=>e= .returned (.string ⟨(Lib.repeatL s.data.toList c).toArray⟩)/\Below w.heap.size w w':=Any.strings_Repeat Tryz.lays105 Tryz.za s c w hc hlen
def Tryz.F6:Go.Shelf.Ren:=⟨λ | 112=>65 | n=>n,λ | 28=>41 | 3=>3 | 4=>4 | 0=>0 | n=>n,λ | n=>n⟩
theorem Tryz.lays112:Go.Proofs.Lays.n112 Tryz.prog Tryz.F6:={
 mixed:=by kernel_rfl
 f112:=Tryz.func65.trans kr
 t0:=Tryz.underlying0
 a0:=Tryz.isAgg0
 z0:=Tryz.sizeOf0
 v0:=Tryz.zeroValue0
 t3:=Tryz.underlying3
 a3:=Tryz.isAgg3
 z3:=Tryz.sizeOf3
 v3:=Tryz.zeroValue3
 t4:=Tryz.underlying4
 a4:=Tryz.isAgg4
 z4:=Tryz.sizeOf4
 v4:=Tryz.zeroValue4
 t28:=Tryz.underlying41
 a28:=Tryz.isAgg41
 z28:=Tryz.sizeOf41
 v28:=Tryz.zeroValue41}
open Go.RowKit Go.Lib Go.Sort in
theorem Tryz.slices_Reverse_int(blk off cap:Nat)(zs:List Int)(w:World)(hH:Holds (Value.int .i64) w blk off zs.toArray)(hsz:zs.length<=9223372036854775807) :
  Calls Tryz.prog 65 #[.slice (some ⟨blk,off,none⟩) zs.length cap] w λe w'=>e= .returned (.tuple #[])/\ ∃ n,w'=putRow (Value.int .i64) (Sort.ahead w n) blk off zs.reverse.toArray:=Any.slices_Reverse_int Tryz.lays112 blk off cap zs w hH hsz
open Go.RowKit Go.Lib Go.Sort in
theorem Tryz.slices_Reverse_int_empty(a:Option Addr)(cap:Nat)(w:World) :
  Calls Tryz.prog 65 #[.slice a 0 cap] w λe w'=>e= .returned (.tuple #[])/\w'=w:=Any.slices_Reverse_int_empty Tryz.lays112 a cap w
end Go.Proofs
/-
  Slices of the call's own inside structs: the token stands in the reading of the struct.
-/
namespace Go.Dec
open Go
variable {α:Type}{s':Ty α}{β:Type}{t':Ty β}{u:α}{x:Operand}
def tOT{α:Type}(t:Ty α)(k:Tok):Ty (List α) where
 size:=1
 agg:=false
 rep:=λg cs xs=>∃ v,cs= [v]/\(tO t k xs).holds v g
 len:=λ⟨v,h,_⟩=>by rw [h];rfl
 one:=λ⟨v,h,hv⟩ c hc=>by
  rw [h] at hc;rw [List.mem_singleton.1 hc,hv.1];rfl
 mono:=λe ⟨v,h,hv⟩=>⟨v,h,(tO t k _).mono e hv⟩
 sing:=λ_=>rfl
theorem UD(t:Ty α)(k:Tok):Le (tOT t k) (tL t):=⟨rfl,rfl,by
 rintro g cs xs ⟨v,rfl,hv⟩;obtain ⟨ds,hd,he⟩:=uL hv;have hl:=(tL t).len hd
 match ds,hl with
 | [c],_=>
  have:v=c:=he;rw [this];exact hd⟩
theorem Le.pair{s:Ty α}{t:Ty β}(h:Le s s')(k:Le t t'):Le (tP s t) (tP s' t'):=by
 refine ⟨?_,rfl,?_⟩
 .show s.size+t.size=s'.size+t'.size;rw [h.size,k.size]
 .rintro g cs x ⟨c1,c2,rfl,h1,h2⟩;exact ⟨c1,c2,rfl,h.rep _ _ _ h1,k.rep _ _ _ h2⟩
theorem Le.one{s:Ty α}(h:Le s s'):Le (tOne s) (tOne s'):=⟨h.size,rfl,h.rep⟩
theorem Le.mapT{t:Ty β}(h:Le t t')(m:α->β):Le (tMap t m) (tMap t' m):=⟨h.size,h.agg,λg cs x hx=>h.rep g cs (m x) hx⟩
def aY{α β:Type}(s s':Ty α)(o:Nat)(t:Ty β)(upd:α->β->α):Prop:=
 ∀ g cs ds x y,s.rep g cs x->t.rep g ds y->o+ds.length<=cs.length/\s'.rep g (over cs o ds) (upd x y)
theorem aY.here(s s':Ty α)(t:Ty β)(hz:s.size=s'.size):aY (tP s t) (tP s' t) 0 s' (λx y=>(y,x.2)):=by
 rintro g cs ds x y ⟨c1,c2,rfl,h1,h2⟩ hy;have e1:=s.len h1;have e2:=s'.len hy;refine ⟨by rw [List.length_append];omega,ds,c2,?_,hy,h2⟩;unfold over;rw [List.take_zero,List.nil_append,Nat.zero_add,e2,<-hz,<-e1,List.drop_left]
theorem aY.next{γ:Type}{s:Ty α}{t:Ty β}{u:Ty γ}{o:Nat}{f:β->γ->β}(h:aY t t' o u f):aY (tP s t) (tP s t') (s.size+o) u (λx y=>(x.1,f x.2 y)):=by
 rintro g cs ds x y ⟨c1,c2,rfl,h1,h2⟩ hy;obtain ⟨hl,hr⟩:=h g c2 ds x.2 y h2 hy;have e1:=s.len h1;refine ⟨by rw [List.length_append];omega,c1,over c2 o ds,?_,h1,hr⟩;unfold over;rw [List.take_append,List.drop_append,e1];rw [List.take_of_length_le (by omega),show s.size+o-s.size=o by omega,List.drop_eq_nil_of_le (by omega),show s.size+o+ds.length-s.size=o+ds.length by omega];simp
theorem aY.one(s s':Ty α)(hz:s.size=s'.size):aY (tOne s) (tOne s') 0 s' (λ_ y=>y):=by
 intro g cs ds x y h1 hy;have e1:=s.len h1;have e2:=s'.len hy;refine ⟨by omega,?_⟩;unfold over;rw [List.take_zero,List.nil_append,Nat.zero_add,e2,<-hz,<-e1,List.drop_length,List.append_nil];exact hy
theorem aY.map{γ:Type}{t:Ty β}{u:Ty γ}{o:Nat}{f:β->γ->β}{m:α->β}{f':α->γ->α}(h:aY t t' o u f)(hm:∀ x y,m (f' x y)=f (m x) y):aY (tMap t m) (tMap t' m) o u f':=by
 intro g cs ds x y h1 hy;obtain ⟨hl,hr⟩:=h g cs ds (m x) y h1 hy;refine ⟨hl,?_⟩;show t'.rep g _ (m (f' x y));rw [hm];exact hr
theorem aY.cast{s:Ty α}{o o':Nat}{t:Ty β}{f f':α->β->α}(h:aY s s' o t f)(ho:o'=o)(hf:f'=f):aY s s' o' t f':=by subst ho hf;exact h
section
variable {P:Program} {N:Nat} {g0:G} {T0:Nat->Prop} {env:Env} {res:Rs} {d:Option Tmp} {ty:TypeId} {pos:String} {aft:Array Edge} {gd:Option (Nat×Bool)}
theorem Opd.VU{t:Ty α}{k:Tok}{xs:List α}(h:Opd env x (tO t k xs)):Opd env x ((tOT t k).is xs):=h.weak λv g hv=>⟨[v],⟨v,rfl,hv⟩,rfl⟩
theorem Opd.leT{s t:Ty α}(l:Le s t)(h:Opd env x (s.is u)):Opd env x (t.is u):=h.weak λv g ⟨cs,h1,h2⟩=>⟨cs,l.rep _ _ _ h1,by rw [<-l.agg];exact h2⟩
theorem Op1.ofOT{t:Ty α}{k:Tok}{xs:List α}{o:Oper}(h:Op1 P o env res ((tOT t k).is xs)):Op1 P o env res (tO t k xs):=h.weak λv g ⟨cs,⟨c,h1,h2⟩,h3⟩=>by
 subst h1;have:v=c:=h3;rw [this];exact h2
theorem OpR.storeBFT{s:Ty α}{t:Ty β}{upd:α->β->α}{T T':TypeId}{b o:Nat}{v:β}{y:Operand}(key:Nat)(hs:s.agg=true)(hs':s'.agg=true)(ht:TyAt P T t)(hF:aY s s' o t upd)(hr:res.pick [key]= [(key,Bx s.size true T' (s.is u) b)])
  (ho:o+t.size<=s.size) (hx:Opd env x (Bp b o):=by exact .tmp rfl)(hy:Opd env y (t.is v):=by exact .tmp rfl) :
  OpR P ⟨none,.store T x y,ty,pos,aft,gd⟩ env res [key] (λ_:Unit=>Asn.any) (λ_=>[(key,Bx s.size true T' (s'.is (upd u v)) b)]):=
 OpR.storeAt key ht.size (bg.is t v) hr hx hy ho (λg g' cs ds e h1 h2 h3 h4=>by
  obtain ⟨cs',k1,k2⟩:=h2;rw [hs] at k2;have e1:cs=cs':=by
   have:=congrArg Value.cells k2;simpa [mkVal,Value.cells] using this
  subst e1;obtain ⟨ds',j1,j2⟩:=h3;have e2:ds=ds':=by
   have hl:=t.len j1;cases ha:t.agg with
   | true=>
    rw [ha] at j2;have:=congrArg Value.cells j2;simpa [mkVal,Value.cells] using this
   | false=>
    rw [ha] at j2;have hn:=t.sing ha;rw [hn] at h4 hl
    match ds,ds',h4,hl with
    | [c],[c'],_,_=>
     have:c=c':=j2;rw [this]
  subst e2;exact ⟨over cs o ds,(hF g' cs ds u v (s.mono e k1) (t.mono e j1)).2,by rw [hs']⟩)
end
theorem Le.is{s t:Ty α}(l:Le s t){v:Value}{g:G}(h:(s.is u).holds v g):(t.is u).holds v g:=by
 obtain ⟨cs,h1,h2⟩:=h;exact ⟨cs,l.rep _ _ _ h1,by rw [<-l.agg];exact h2⟩
section
variable {P:Program} {N:Nat} {g0:G} {T0:Nat->Prop} {ks:List KF} {B:Exit->Act->World->Prop} {env:Env} {res:Rs}
theorem WN.weakR{res':Rs}(hr:RSub res' res)(h:WN P N g0 T0 ks B env res'):WN P N g0 T0 ks B env res:=
 λa g hst=>h a g ⟨hst.sz,hst.dfr,hst.henv,λx hx=>hst.hres x (hr.mem x hx),hr.dis hst.dis,λb ⟨x,hx,hb⟩=>hst.own b ⟨x,hr.mem x hx,hb⟩,hst.ext⟩
theorem WN.rekey{res':Rs}(e:res.map Prod.snd=res'.map Prod.snd)(h:WN P N g0 T0 ks B env res'):WN P N g0 T0 ks B env res:=
 λa g hst=>h a g (hst.rekey e)
end
end Go.Dec
/-
  Slices of the call's own whose elements may still be written: what they are stands in the resource. Their elements' readings do not lean on memory.
-/
namespace Go.Dec
open Go
variable {E:TypeId}{Q:Exit->Act->World->Prop}{k:Tok}{key:Nat}{l:List Oper}{ops:Array Oper}{α:Type}{u:α}{v:List α}{x:Operand}{xs:List α}
def Flat{α:Type}(t:Ty α):Prop:=∀ g g' cs x,t.rep g cs x->t.rep g' cs x
theorem Flat.S:Flat tS:=λ_ _ _ _ h=>h
theorem Flat.I{k:IntKind}:Flat (tI k):=λ_ _ _ _ h=>h
theorem Flat.B:Flat tB:=λ_ _ _ _ h=>h
theorem Flat.pair{β:Type}{s:Ty α}{t:Ty β}(h:Flat s)(k:Flat t):Flat (tP s t):=λg g' cs x ⟨c1,c2,e,h1,h2⟩=>⟨c1,c2,e,h g g' _ _ h1,k g g' _ _ h2⟩
theorem Flat.one{s:Ty α}(h:Flat s):Flat (tOne s):=h
theorem Flat.map{β:Type}{t:Ty β}(h:Flat t)(m:α->β):Flat (tMap t m):=λg g' cs x hx=>h g g' cs (m x) hx
def tU(k:Tok)(n:Nat):Asn:=⟨λv _=>v= .slice k.addr n k.cap/\n<=k.cap/\n<=lim,λ_ h=>h⟩
def OwnU{α:Type}(t:Ty α)(E:TypeId)(k:Tok)(xs:List α):Res where
 blk:=λx=>k.map Prod.fst=some x
 holds:=λg=>match k with
  | none=>xs= []
  | some p=>∃ cur,g.w.heap[p.1]? =some (.cells cur E (0,0))/\cur.size=p.2*t.size/\xs.length<=p.2/\p.2<=maxLen/\g.S p.1=0/\Cells t g (cur.toList.take (xs.length*t.size)) xs
 stay:=λ{T g g'} e hn h=>by
  cases k with
  | none=>exact h
  | some p=>
   obtain ⟨cur,h1,h2,h3,h4,h5,h6⟩:=h;have hlt:p.1<g.w.heap.size:=(Array.getElem?_eq_some_iff.1 h1).1;have:=e.same p.1 hlt (hn p.1 rfl);exact ⟨cur,this.1.trans h1,h2,h3,h4,this.2.trans h5,h6.mono e⟩
 lt:=λ{g b} h hb=>by
  cases k with
  | none=>cases hb
  | some p=>
   obtain ⟨cur,h1,_⟩:=h;have hlt:p.1<g.w.heap.size:=(Array.getElem?_eq_some_iff.1 h1).1;cases hb;exact hlt
def G.fixd(g:G)(k:Tok)(s:Nat):G:=⟨g.w,λx=>if k.map Prod.fst=some x then s else g.S x⟩
theorem OwnU.zero{t:Ty α}{g:G}(h:(OwnU t E k xs).holds g){b:Nat}(hb:k.map Prod.fst=some b):g.S b=0:=by
 cases k with
 | none=>cases hb
 | some p=>
  obtain ⟨cur,h1,h2,h3,h4,h5,h6⟩:=h;cases hb;exact h5
theorem OwnU.fixd{t:Ty α}{g:G}(h:(OwnU t E k xs).holds g) :
  Ext (λb=>k.map Prod.fst=some b) g (g.fixd k (xs.length*t.size))/\(Own t E k xs.length).holds (g.fixd k (xs.length*t.size))/\Row t (g.fixd k (xs.length*t.size)) k.addr xs:=by
 have e:Ext (λb=>k.map Prod.fst=some b) g (g.fixd k (xs.length*t.size)):=by
  refine ⟨rfl,rfl,rfl,Nat.le_refl _,λx _ hn=>⟨rfl,?_⟩,λx i v hv=>⟨?_,hv.2⟩,λx n hv=>?_⟩
  .show (if _ then _ else _)=_;rw [if_neg hn]
  .show i<(if _ then _ else _);by_cases hx:k.map Prod.fst=some x
   .have:=OwnU.zero h hx;have h2:=hv.1;omega
   .rw [if_neg hx];exact hv.1
  .by_cases hx:k.map Prod.fst=some x
   .exact (hv.pos (OwnU.zero h hx)).elim
   .refine hv.same rfl ?_;show g.S x<=if _ then _ else _;rw [if_neg hx];exact Nat.le_refl _
 refine ⟨e,?_⟩;cases k with
 | none=>
  have hx:xs= []:=h;subst hx;exact ⟨rfl,rfl⟩
 | some p=>
  obtain ⟨cur,h1,h2,h3,h4,h5,h6⟩:=h;have hS:(g.fixd (some p) (xs.length*t.size)).S p.1=xs.length*t.size:=if_pos rfl;refine ⟨⟨cur,h1,h2,h3,h4,hS⟩,(h6.mono e).row λj v hj=>⟨?_,?_⟩⟩
  .rw [hS];have:=(List.getElem?_eq_some_iff.1 hj).1;rw [h6.1] at this;omega
  .show g.w.cell? ⟨p.1,0+j,none⟩=some v;rw [cell_of_row _ _ _ _ _ _ h1,Nat.zero_add];rw [List.getElem?_take] at hj;split at hj
   .simpa using hj
   .cases hj
theorem Ext.loose{T:Nat->Prop}{g g1:G}(e:Ext T g g1)(hk:∀ b,k.map Prod.fst=some b->(T b/\g.S b=0)\/g.w.heap.size<=b):Ext T g (g1.fixd k 0):=by
 refine ⟨e.os,e.tape,e.output,e.size,λb hb hn=>⟨(e.same b hb hn).1,?_⟩,λb i v hv=>⟨?_,(e.kept b i v hv).2⟩,λb n hv=>(e.rows b n hv).same rfl ?_⟩
 .show (if _ then _ else _)=_;by_cases h:k.map Prod.fst=some b
  .rcases hk b h with h1 | h1
   .exact absurd h1.1 hn
   .omega
  .rw [if_neg h];exact (e.same b hb hn).2
 .show i<(if _ then _ else _);by_cases h:k.map Prod.fst=some b
  .rcases hk b h with h1 | h1
   .have:=hv.1;omega
   .have:=hv.lt;omega
  .rw [if_neg h];exact (e.kept b i v hv).1
 .show g1.S b<=(if _ then _ else _);by_cases h:k.map Prod.fst=some b
  .rcases hk b h with h1 | h1
   .exact (hv.pos h1.2).elim
   .have:=hv.lt;omega
  .rw [if_neg h];exact Nat.le_refl _
theorem OwnU.loose{t:Ty α}(hF:Flat t){g:G}(h:(Own t E k xs.length).holds g)(hr:Row t g k.addr xs):(OwnU t E k xs).holds (g.fixd k 0):=by
 cases k with
 | none=>exact hr
 | some p=>
  obtain ⟨cur,h1,h2,h3,h4,h5⟩:=h;have hr:Row t g (some ⟨p.1,0,none⟩) xs:=hr;obtain ⟨olds,hoc,hoh⟩:=Row.cells hr.2;have hcl:cur.toList.length=cur.size:=by simp
  have hml:=Nat.mul_le_mul_right t.size h3;have heq:olds=cur.toList.take (xs.length*t.size):=by
   apply List.ext_getElem?;intro j;by_cases hj:j<olds.length
   .have h1':=(hoh j _ (List.getElem?_eq_getElem hj)).2;rw [cell_of_row _ _ _ _ _ _ h1] at h1';rw [List.getElem?_eq_getElem hj,List.getElem?_take,if_pos (by rw [<-hoc.1];exact hj)];simpa using h1'.symm
   .rw [List.getElem?_eq_none (by omega),List.getElem?_eq_none (by rw [List.length_take,<-hoc.1,hcl];omega)]
  refine ⟨cur,h1,h2,h3,h4,if_pos rfl,?_⟩;rw [<-heq];exact ⟨hoc.1,hoc.2.1,λi x hx=>let ⟨ds,k1,k2⟩:=hoc.2.2 i x hx;⟨ds,hF _ _ _ _ k1,k2⟩⟩
section
variable {P:Program} {N:Nat} {g0:G} {T0:Nat->Prop} {ks:List KF} {B:Exit->Act->World->Prop} {env:Env} {res:Rs} {d:Option Tmp} {ty:TypeId} {pos:String} {aft:Array Edge} {gd:Option (Nat×Bool)}
theorem zb{R:Res}(hr:res.pick [key]= [(key,R)]):(key,R)∈res:=by
 have:(key,R)∈res.pick [key]:=by rw [hr];exact List.mem_singleton.2 rfl
 exact (List.mem_filter.1 this).1
theorem nX{R:Res}(hr:res.pick [key]= [(key,R)])(b:Nat):(res.pick [key]).blks b ↔ R.blk b:=by
 rw [hr];constructor
 .rintro ⟨y,hy,hb⟩;rw [List.mem_singleton.1 hy] at hb;exact hb
 .intro hb;exact ⟨_,List.mem_singleton.2 rfl,hb⟩
theorem F7{t:Ty α}{n:Nat}{a:Act}{g:G}(hs:look n env=some (tU k xs.length))(h:(OwnU t E k xs).holds g)(he:∀ s A,look s env=some A->A.holds (a.tmps.getD s undef) g) :
  ∀ s A,look s ((n,tO t k xs) :: env)=some A->A.holds (a.tmps.getD s undef) (g.fixd k (xs.length*t.size)):=by
 obtain ⟨e,_,hrow⟩:=OwnU.fixd h;intro s A hA;by_cases hk:n=s
 .subst hk;rw [dh] at hA;cases hA;obtain ⟨h1,h2,h3⟩:=he n _ hs;exact ⟨h1,h2,h3,hrow⟩
 .rw [bL _ _ hk] at hA;exact A.mono e (he s A hA)
theorem Op1.kv{n:Nat}{T e:TypeId}(hT:P.underlying T=some (.slice e))(h:Opd env x (tU k n):=by exact .tmp rfl) :
  Op1 P ⟨d,.call ⟨.builtin .len,#[x],#[T]⟩,ty,pos,aft,gd⟩ env res ((tI .i64).is (n:Int)):=
 Op1.same λa g hc=>by
  obtain ⟨hv,_,h3⟩:=h a g hc.henv;exact ⟨.int .i64 n,by simp [execOp,resolve,invoke,builtin,Builtin.len_,run_underlying hT,hv,goInt],Asn.int (inRlen h3)⟩
theorem I4{i:Int}(h:Dec.idx xs i=some u):0<=i/\i.toNat<xs.length/\xs[i.toNat]? =some u:=by
 unfold Dec.idx at h;split at h
 .rename_i h0;exact ⟨h0,(List.getElem?_eq_some_iff.1 h).1,h⟩
 .cases h
theorem Op1.idxU{t:Ty α}{T:TypeId}{y:Operand}{i:Int}(h:Dec.idx xs i=some u)(hT:P.underlying T=some (.slice E))(hsz:∀ w,(sizeOf E).run P w= .ok t.size w)(hx:Opd env x (tU k xs.length):=by exact .tmp rfl)(hy:Opd env y ((tI .i64).is i):=by exact .tmp rfl) :
  Op1 P ⟨d,.indexAddr T x y,ty,pos,aft,gd⟩ env res (Bp (bk k) (i.toNat*t.size)):=
 Op1.same λa g hc=>by
  obtain ⟨hv,h1,h2⟩:=hx a g hc.henv;have hi:=(hy.atInt hc).1;obtain ⟨q0,q1,_⟩:=I4 h;cases k with
  | none=>
   have:xs.length<=0:=h1;omega
  | some p=>
   refine ⟨.pointer (some ((⟨p.1,0,none⟩:Addr).add (i.toNat*t.size))),?_,?_⟩
   .have hlt:i<(xs.length:Int):=by omega
    simp [execOp,Instr.indexAt,asIntOf,hv,hi,run_underlying hT,hsz,Tok.addr,q0,hlt]
   .rw [Addr.add_lit,Nat.zero_add];rfl
theorem OwnU.cells{t:Ty α}{i:Nat}{g:G}(h:(OwnU t E k xs).holds g)(hi:xs[i]? =some u):∃ cur ds,g.w.heap[bk k]? =some (.cells cur E (0,0))/\t.rep g ds u/\i*t.size+t.size<=cur.size/\ ∀ (j:Nat) v,ds[j]? =some v->cur[i*t.size+j]? =some v:=by
 cases k with
 | none=>
  have h:xs= []:=h;rw [h] at hi;cases hi
 | some p=>
  obtain ⟨cur,h1,h2,h3,h4,h5,h6⟩:=h;obtain ⟨ds,k1,k2⟩:=h6.2.2 i u hi;have hlt:=(List.getElem?_eq_some_iff.1 hi).1;refine ⟨cur,ds,h1,k1,?_,λj v hj=>?_⟩
  .have:=Nat.mul_le_mul_right t.size (show i+1<=p.2 by omega);rw [Nat.add_mul,Nat.one_mul] at this;omega
  .have:=k2 j v hj;rw [List.getElem?_take] at this;split at this
   .simpa using this
   .cases this
theorem Op1.um{t:Ty α}{i:Int}(key:Nat)(h:Dec.idx xs i=some u)(ht:TyAt P E t)(hr:findR key res=some (OwnU t E k xs))(hx:Opd env x (Bp (bk k) (i.toNat*t.size)):=by exact .tmp rfl) :
  Op1 P ⟨d,.load E x,ty,pos,aft,gd⟩ env res (t.is u):=
 Op1.same λa g hc=>by
  obtain ⟨_,_,q2⟩:=I4 h;obtain ⟨cur,ds,h1,k1,_,k3⟩:=OwnU.cells (hc.hres _ (fO hr)) q2;have hv:a.eval x= .pointer (some ⟨bk k,i.toNat*t.size,none⟩):=hx a g hc.henv;have:=pG (P:=P) ht.agg ht.size (w:=g.w) (b:=bk k) (o:=i.toNat*t.size) (t.len k1) t.sing (λj v hj=>by
   rw [cell_of_row _ _ _ _ _ _ h1];exact k3 j v hj)
  exact ⟨mkVal t.agg ds,by simp [execOp,hv,Instr.loadAt,Instr.sureAddr,this],ds,k1,rfl⟩
theorem F8{i:Int}(h:setC xs i u=some v):0<=i/\i.toNat<xs.length/\v=xs.set i.toNat u:=by
 unfold setC at h;split at h
 .rename_i hc;cases h;exact ⟨hc.1,hc.2,rfl⟩
 .cases h
theorem cO{i:Int}(h:setC xs i u=some v):xs.length=v.length:=by
 rw [(F8 h).2.2];simp
theorem OpR.storeU{t:Ty α}{y:Operand}{i:Int}(h:setC xs i u=some v)(ht:TyAt P E t)(hx:Opd env x (Bp (bk k) (i.toNat*t.size)))(hy:Opd env y (t.is u))(hr:res.pick [key]= [(key,OwnU t E k xs)]) :
  OpR P ⟨none,.store E x y,ty,pos,aft,gd⟩ env res [key] (λ_:Unit=>Asn.any) (λ_=>[(key,OwnU t E k v)]):=by
 obtain ⟨hi0,hil,rfl⟩:=F8 h;intro a g K Q hc hd hK;have hres:(OwnU t E k xs).holds g:=hc.hres _ (zb hr);cases k with
 | none=>
  have hx:xs= []:=hres;rw [hx] at hil;simp at hil
 | some p=>
  obtain ⟨cur,h1,h2,h3,h4,h5,h6⟩:=hres;generalize i.toNat=m at hil hx hK ⊢;have hv:a.eval x= .pointer (some ⟨p.1,m*t.size,none⟩):=hx a g hc.henv;obtain ⟨ds,k1,k2⟩:=hy a g hc.henv;have hdl:=t.len k1;have hvc:(a.eval y).cells=ds.toArray:=by rw [k2];exact t.cells k1
  have hm1:=Nat.mul_le_mul_right t.size (show m+1<=xs.length by omega);have hm2:=Nat.mul_le_mul_right t.size h3;rw [Nat.add_mul,Nat.one_mul] at hm1;have hcl:cur.toList.length=p.2*t.size:=by simpa using h2
  have hrun:=qH (P:=P) (cur:=cur.toList) (ds:=ds) (v:=a.eval y) (o:=m*t.size) ht.size (by simpa using h1) hvc hdl (by omega) (t.one k1);have hex:(execOp a.eval ⟨none,.store E x y,ty,pos,aft,gd⟩).run P g.w= .ok .skip (g.w.setRow p.1 (over cur.toList (m*t.size) ds).toArray):=by
   simp [execOp,hv,Instr.storeAt,Instr.sureAddr,hrun]
  show Oper.upon P _ a K Q ((execOp a.eval _).run P g.w);rw [hex];have ho:m*t.size+ds.length<=cur.toList.length:=by omega
  let g':G:=⟨g.w.setRow p.1 (over cur.toList (m*t.size) ds).toArray,λx=>if x=p.1 then 0 else g.S x⟩
  have e:Ext (λx=>x=p.1) g g':=o8 h1 (by omega) (λi v hi _=>by omega) (λh=>by omega);have hheap':g'.w.heap[p.1]? =some (.cells (over cur.toList (m*t.size) ds).toArray E (0,0)):=setRow_heap g.w p.1 cur _ E _ h1;refine hK () undef g' (e.mono (λx hx=>(nX hr x).2 (by rw [show x=p.1 from hx];rfl))) trivial (λy hy=>?_) (List.pairwise_singleton _ _) (λb' hb'=>.inl ((nX hr b').2 ?_))
  .rw [List.mem_singleton.1 hy];refine ⟨_,hheap',by rw [List.size_toArray,gF ho,hcl],by simpa using h3,h4,if_pos rfl,?_,?_,?_⟩
   .rw [List.length_take,List.length_set,gF ho];omega
   .intro c hcm;obtain ⟨j,hj⟩:=List.getElem?_of_mem hcm;rw [List.getElem?_take] at hj;split at hj
    .rename_i hjl;simp only [List.length_set] at hjl;have hj:(over cur.toList (m*t.size) ds)[j]? =some c:=hj;rw [mD ho] at hj;split at hj
     .exact t.one k1 c (List.mem_of_getElem? hj)
     .refine h6.2.1 c (List.mem_of_getElem? (i:=j) ?_);rw [List.getElem?_take,if_pos hjl];exact hj
    .cases hj
   .intro j z hz;by_cases hjm:j=m
    .subst hjm;rw [List.getElem?_set_self hil] at hz;cases hz;refine ⟨ds,t.mono e k1,λq w hq=>?_⟩;have hql:=(List.getElem?_eq_some_iff.1 hq).1;rw [List.getElem?_take,if_pos (by rw [List.length_set];omega)];show (over cur.toList (j*t.size) ds)[j*t.size+q]? =some w;rw [mD ho,if_pos (by omega),show j*t.size+q-j*t.size=q by omega];exact hq
    .rw [List.getElem?_set_ne (λh=>hjm h.symm)] at hz;obtain ⟨es,q1,q2⟩:=h6.2.2 j z hz;refine ⟨es,t.mono e q1,λq w hq=>?_⟩;have hql:=(List.getElem?_eq_some_iff.1 hq).1;have hel:=t.len q1;have h7:=q2 q w hq;rw [List.getElem?_take] at h7;split at h7
     .rename_i hlt;rw [List.getElem?_take,if_pos (by rw [List.length_set];exact hlt)];show (over cur.toList (m*t.size) ds)[j*t.size+q]? =some w;rw [mD ho,if_neg ?_]
      .exact h7
      .rcases Nat.lt_or_ge j m with hlt' | hge
       .have:=Nat.mul_le_mul_right t.size (show j+1<=m by omega);rw [Nat.add_mul,Nat.one_mul] at this;omega
       .have:=Nat.mul_le_mul_right t.size (show m+1<=j by omega);rw [Nat.add_mul,Nat.one_mul] at this;omega
     .cases h7
  .obtain ⟨y,hy,hyb⟩:=hb';rw [List.mem_singleton.1 hy] at hyb;exact hyb
theorem St.fixU{t:Ty α}{slot:Nat}(hs:look slot env=some (tU k xs.length))(hr:findR key res=some (OwnU t E k xs)){a:Act}{g:G}(h:St N g0 T0 env res a g) :
  ∃ g',g'.w=g.w/\St N g0 T0 ((slot,tO t k xs) :: env) ((key,Own t E k xs.length) :: res.drop [key]) a g':=by
 have hin:=fO hr;have hres:(OwnU t E k xs).holds g:=h.hres _ hin;obtain ⟨e,hown,hrow⟩:=OwnU.fixd hres;have hd:∀ y∈res.drop [key],y∈res/\y.1≠key:=λy hy=>by
  have:=List.mem_filter.1 hy;refine ⟨this.1,λe=>?_⟩;have h3:=this.2;rw [gG.2 (show y.1∈ [key] by rw [e];simp)] at h3;cases h3
 refine ⟨g.fixd k (xs.length*t.size),rfl,h.sz,h.dfr,F7 hs hres h.henv,λy hy=>?_,?_,λb' ⟨y,hy,hb⟩=>?_,?_⟩
 .rcases List.mem_cons.1 hy with rfl | hy
  .exact hown
  .refine y.2.stay e (λb' hb' hT=>?_) (h.hres y (hd y hy).1);exact h.dis.two y (hd y hy).1 _ hin (hd y hy).2 b' hb' hT
 .refine List.pairwise_cons.2 ⟨λy hy b' hb'=>?_,h.dis.filter _⟩;exact h.dis.two _ hin _ (hd y hy).1 (Ne.symm (hd y hy).2) b' hb'
 .rcases List.mem_cons.1 hy with rfl | hy
  .exact h.own b' ⟨_,hin,hb⟩
  .exact h.own b' ⟨y,(hd y hy).1,hb⟩
 .refine h.ext.trans e (λx hx hT=>?_);rcases h.own x ⟨_,hin,hT⟩ with h1 | h1
  .omega
  .exact h1
theorem WL.fixU{t:Ty α}(slot key:Nat)(hs:look slot env=some (tU k xs.length))(hr:findR key res=some (OwnU t E k xs))
  (h:WL P N g0 T0 ops Q l ((slot,tO t k xs) :: env) ((key,Own t E k xs.length) :: res.drop [key])):WL P N g0 T0 ops Q l env res:=by
 intro a g hst;obtain ⟨g',h1,h2⟩:=hst.fixU hs hr;have:=h a g' h2;rw [h1] at this;exact this
theorem St.freeU{t:Ty α}{slot:Nat}(hs:look slot env=some (tO t k ([]:List α)))(hr:findR key res=some (Own t E k 0)){a:Act}{g:G}(h:St N g0 T0 env res a g) :
  St N g0 T0 ((slot,tU k 0) :: env) ((key,OwnU t E k ([]:List α)) :: res.drop [key]) a g:=by
 have hin:=fO hr;have hres:(Own t E k 0).holds g:=h.hres _ hin;have hd:∀ y∈res.drop [key],y∈res/\y.1≠key:=λy hy=>by
  have:=List.mem_filter.1 hy;refine ⟨this.1,λe=>?_⟩;have h3:=this.2;rw [gG.2 (show y.1∈ [key] by rw [e];simp)] at h3;cases h3
 refine ⟨h.sz,h.dfr,λs A hA=>?_,λy hy=>?_,?_,λb' ⟨y,hy,hb⟩=>?_,h.ext⟩
 .by_cases hk:slot=s
  .subst hk;rw [dh] at hA;cases hA;obtain ⟨h1,h2,h3,_⟩:=h.henv slot _ hs;exact ⟨h1,h2,h3⟩
  .rw [bL _ _ hk] at hA;exact h.henv s A hA
 .rcases List.mem_cons.1 hy with rfl | hy
  .show (OwnU t E k ([]:List α)).holds g;cases k with
   | none=>rfl
   | some p=>
    obtain ⟨cur,h1,h2,h3,h4,h5⟩:=hres;exact ⟨cur,h1,h2,h3,h4,by rw [h5];simp,by simpa using Cells.nil⟩
  .exact h.hres y (hd y hy).1
 .refine List.pairwise_cons.2 ⟨λy hy b' hb'=>?_,h.dis.filter _⟩;exact h.dis.two _ hin _ (hd y hy).1 (Ne.symm (hd y hy).2) b' hb'
 .rcases List.mem_cons.1 hy with rfl | hy
  .exact h.own b' ⟨_,hin,hb⟩
  .exact h.own b' ⟨y,(hd y hy).1,hb⟩
theorem WL.freeU{t:Ty α}(slot key:Nat)(hs:look slot env=some (tO t k ([]:List α)))(hr:findR key res=some (Own t E k 0))
  (h:WL P N g0 T0 ops Q l ((slot,tU k 0) :: env) ((key,OwnU t E k ([]:List α)) :: res.drop [key])):WL P N g0 T0 ops Q l env res:=λa g hst=>h a g (hst.freeU hs hr)
end
section
variable {P:Program} {N:Nat} {g0:G} {T0:Nat->Prop} {ks:List KF} {B:Exit->Act->World->Prop} {env:Env} {res:Rs} {d:Option Tmp} {ty:TypeId} {pos:String} {aft:Array Edge} {gd:Option (Nat×Bool)}
theorem WN.kv{n n':Nat}(slot:Nat)(hn:n=n')(hs:look slot env=some (tU k n))(h:WN P N g0 T0 ks B ((slot,tU k n') :: env) res):WN P N g0 T0 ks B env res:=by
 subst hn;intro a g hst;refine h a g ⟨hst.sz,hst.dfr,λs A hA=>?_,hst.hres,hst.dis,hst.own,hst.ext⟩;by_cases hk:slot=s
 .subst hk;rw [dh] at hA;cases hA;exact hst.henv slot _ hs
 .rw [bL _ _ hk] at hA;exact hst.henv s A hA
theorem WL.sameU{t:Ty α}(slot slot2:Nat)(hs:look slot env=some (tO t k xs))(hs2:look slot2 env=some (tU k xs.length))(h:WL P N g0 T0 ops Q l ((slot2,tO t k xs) :: env) res):WL P N g0 T0 ops Q l env res:=by
 intro a g hst;refine h a g ⟨hst.sz,hst.dfr,λs A hA=>?_,hst.hres,hst.dis,hst.own,hst.ext⟩;by_cases hk:slot2=s
 .subst hk;rw [dh] at hA;cases hA;obtain ⟨_,_,_,h4⟩:=hst.henv slot _ hs;obtain ⟨h1,h2,h3⟩:=hst.henv slot2 _ hs2;exact ⟨h1,h2,h3,h4⟩
 .rw [bL _ _ hk] at hA;exact hst.henv s A hA
end
end Go.Dec
/-
  Short names, and conditions in one step.
-/
namespace Go.Dec
open Go
variable {A:Asn}{aft:Array Edge}{c:Code}{d:Nat}{ty:TypeId}
abbrev Un:Asn:=Asn.eq undef
theorem Si{α:Type}{a b:α}(h:some a=some b):a=b:=Option.some.inj h
theorem Bs{α β:Type}{o:Option α}{f:α->Option β}{b:β}(h:o.bind f=some b):∃ a,o=some a/\f a=some b:=bind_some h
section
variable {α:Type} {p:Prop} [Decidable p] {b0:Bool} {a b:Option α} {r:α}
theorem iteD(hm:(if p then a else b)=some r):(p/\decide p=true/\a=some r)\/(¬ p/\decide p=false/\b=some r):=by
 by_cases h:p
 .rw [if_pos h] at hm;exact .inl ⟨h,decide_eq_true h,hm⟩
 .rw [if_neg h] at hm;exact .inr ⟨h,decide_eq_false h,hm⟩
theorem iteN(hm:(if ¬ p then a else b)=some r):(¬ p/\(!decide p)=true/\a=some r)\/(¬¬ p/\(!decide p)=false/\b=some r):=by
 by_cases h:p
 .rw [if_neg (λe=>e h)] at hm;exact .inr ⟨λe=>e h,by simp [h],hm⟩
 .rw [if_pos h] at hm;exact .inl ⟨h,by simp [h],hm⟩
end
section
variable {α:Type} {b0:Bool} {a b:Option α} {r:α}
theorem iteB(hm:(if b0=true then a else b)=some r):(b0=true/\b0=true/\a=some r)\/(¬ b0=true/\b0=false/\b=some r):=by
 cases b0 with
 | true=>exact .inl ⟨rfl,rfl,hm⟩
 | false=>exact .inr ⟨Bool.noConfusion,rfl,hm⟩
theorem iteR(hm:(if b0=false then a else b)=some r):(b0=false/\(!b0)=true/\a=some r)\/(¬ b0=false/\(!b0)=false/\b=some r):=by
 cases b0 with
 | true=>exact .inr ⟨Bool.noConfusion,rfl,hm⟩
 | false=>exact .inl ⟨rfl,rfl,hm⟩
end
section
variable {P:Program} {N:Nat} {g0:G} {T0:Nat->Prop} {ks:List KF} {B:Exit->Act->World->Prop} {env:Env} {res:Rs} {α:Type} {a b:Option α} {r:α} {x:Operand} {c d:Code}
theorem Opd.t{t:Nat}(h:look t env=some A):Opd env (.tmp t) A:=Opd.tmp h
theorem W.cD{p:Prop}[Decidable p](hm:(if p then a else b)=some r)(hx:Opd env x (tB.is (decide p)))(ht:p->a=some r->W P N g0 T0 c ks B env res)(hf:¬ p->b=some r->W P N g0 T0 d ks B env res):W P N g0 T0 (.cond x c d) ks B env res:=by
 rcases iteD hm with ⟨h,e,k⟩ | ⟨h,e,k⟩
 .exact W.cond hx (λ_=>ht h k) (λe'=>by rw [e] at e';cases e')
 .exact W.cond hx (λe'=>by rw [e] at e';cases e') (λ_=>hf h k)
theorem W.cN{p:Prop}[Decidable p](hm:(if ¬ p then a else b)=some r)(hx:Opd env x (tB.is (!decide p)))(ht:¬ p->a=some r->W P N g0 T0 c ks B env res)(hf:¬¬ p->b=some r->W P N g0 T0 d ks B env res):W P N g0 T0 (.cond x c d) ks B env res:=by
 rcases iteN hm with ⟨h,e,k⟩ | ⟨h,e,k⟩
 .exact W.cond hx (λ_=>ht h k) (λe'=>by rw [e] at e';cases e')
 .exact W.cond hx (λe'=>by rw [e] at e';cases e') (λ_=>hf h k)
theorem W.cB{b0:Bool}(hm:(if b0=true then a else b)=some r)(hx:Opd env x (tB.is b0))(ht:b0=true->a=some r->W P N g0 T0 c ks B env res)(hf:¬ b0=true->b=some r->W P N g0 T0 d ks B env res):W P N g0 T0 (.cond x c d) ks B env res:=by
 rcases iteB hm with ⟨h,e,k⟩ | ⟨h,e,k⟩
 .exact W.cond hx (λ_=>ht h k) (λe'=>by rw [e] at e';cases e')
 .exact W.cond hx (λe'=>by rw [e] at e';cases e') (λ_=>hf h k)
theorem W.cR{b0:Bool}(hm:(if b0=false then a else b)=some r)(hx:Opd env x (tB.is (!b0)))(ht:b0=false->a=some r->W P N g0 T0 c ks B env res)(hf:¬ b0=false->b=some r->W P N g0 T0 d ks B env res):W P N g0 T0 (.cond x c d) ks B env res:=by
 rcases iteR hm with ⟨h,e,k⟩ | ⟨h,e,k⟩
 .exact W.cond hx (λ_=>ht h k) (λe'=>by rw [e] at e';cases e')
 .exact W.cond hx (λe'=>by rw [e] at e';cases e') (λ_=>hf h k)
end
section
variable {P:Program} {N:Nat} {g0:G} {T0:Nat->Prop} {ks:List KF} {B:Exit->Act->World->Prop} {env:Env} {res:Rs} {ops:Array Oper} {Q:Exit->Act->World->Prop} {rest:List Oper}
theorem Ao{op:Op}{pos:String}(hd:Nat.blt d N=true)(h:Op1 P ⟨some d,op,ty,pos,aft,none⟩ env res A)
  (k:WL P N g0 T0 ops Q rest ((d,A) :: env) res):WL P N g0 T0 ops Q (⟨some d,op,ty,pos,aft,none⟩ :: rest) env res:=WL.op hd h k
theorem Am{t:Nat}{pos:String}(h:look t env=some A)(hd:Nat.blt d N=true)(k:WL P N g0 T0 ops Q rest ((d,A) :: env) res):WL P N g0 T0 ops Q (⟨some d,.move (.tmp t),ty,pos,aft,none⟩ :: rest) env res:=WL.mv h hd k
theorem Ag{t:Nat}{pos:String}(h:look t env=some A)(hd:Nat.blt d N=true)(k:WL P N g0 T0 ops Q rest ((d,A) :: env) res):WL P N g0 T0 ops Q (⟨some d,.assign (.tmp t),ty,pos,aft,none⟩ :: rest) env res:=WL.gv h hd k
theorem An(h:W P N g0 T0 c ks B env res):WL P N g0 T0 ops (KF.sem P (.seq c :: ks) B) [] env res:=WL.ns h
theorem Ar{id:Nat}{l:List Oper}(h:WL P N g0 T0 l.toArray (KF.sem P (.seq c :: ks) B) l env res):WL P N g0 T0 ops (KF.sem P (.seq (.seq (.region id l.toArray false) c) :: ks) B) [] env res:=WL.nr h
theorem Aw{id:Nat}{l:List Oper}(h:WL P N g0 T0 l.toArray (KF.sem P (.seq c :: ks) B) l env res):W P N g0 T0 (.seq (.region id l.toArray false) c) ks B env res:=W.sr h
theorem Aq(h:W P N g0 T0 c ks B env res):WN P N g0 T0 (.seq c :: ks) B env res:=h
theorem Ap{o:Oper}{j dj:Nat}{want b:Bool}{oj:Oper}{op:Op}{pos:String}
  (h:(o,ops[j]?,oj.dst,look dj env,Nat.blt dj N,Nat.blt d N)=((⟨some d,op,ty,pos,aft,some (j,want)⟩,some oj,some dj,some (tB.is b),true,true):Oper×Option Oper×Option Nat×Option Asn×Bool×Bool)) (hb:b= !want)
  (k:WL P N g0 T0 ops Q rest ((d,Un) :: env) res):WL P N g0 T0 ops Q (o :: rest) env res:=by
 simp only [Prod.mk.injEq] at h;exact WL.pass h.1 h.2.1 h.2.2.1 h.2.2.2.1 hb h.2.2.2.2.1 h.2.2.2.2.2 k
theorem Ax{o:Oper}{j dj:Nat}{want b:Bool}{oj:Oper}{op:Op}{pos:String}
  (h:(o,ops[j]?,oj.dst,look dj env,Nat.blt dj N,Nat.blt d N)=((⟨some d,op,ty,pos,aft,some (j,want)⟩,some oj,some dj,some (tB.is b),true,true):Oper×Option Oper×Option Nat×Option Asn×Bool×Bool)) (hb:b=want)
  (h1:Op1 P ⟨some d,op,ty,pos,aft,some (j,want)⟩ env res A) (k:WL P N g0 T0 ops Q rest ((d,A) :: env) res):WL P N g0 T0 ops Q (o :: rest) env res:=by
 simp only [Prod.mk.injEq] at h;exact WL.run h.1 h.2.1 h.2.2.1 h.2.2.2.1 hb h.2.2.2.2.1 h.2.2.2.2.2 h1 k
end
end Go.Dec
/-
  strconv.FormatInt at base 10, strconv.Atoi and strings.Cut: what they compute, in the words of this logic; out of the library's contracts.
-/
namespace Go.Dec
open Go Go.RowKit
theorem LC{g:G}{w':World}(h:Below g.w.heap.size g.w w'):Ext No g ⟨w',λb=>if b<g.w.heap.size then g.S b else 0⟩:=
 yC _ h.os h.tape h.output h.size (λx hx _=>⟨h.block x hx,if_pos hx⟩) (λx hf=>hf.elim)
theorem F9{P:Program}{f:FuncId}{As:List Asn}{rin:Rs}{A:Asn}
  (h:∀ (g:G) (vs:List Value),All2 As vs g->rin.all g->Calls P f vs.toArray g.w λe w'=>∃ v,e= .returned v/\Below g.w.heap.size g.w w'/\ ∀ g',A.holds v g'):aR P f As rin (λ_:Unit=>A) (λ_=>[]):=by
 intro g vs hvs hr hd;refine (h g vs hvs hr).mono ?_;rintro e w' ⟨v,rfl,hb,hv⟩;exact ⟨(),_,_,rfl,rfl,(LC hb).no,hv _,λy hy=>(by cases hy),List.Pairwise.nil,λb' ⟨y,hy,_⟩=>by cases hy⟩
theorem dU.arr{α:Type}{t:Ty α}{n j:Nat}(hj:j<n):dU (tA n t) (j*t.size) t (λxs y=>xs.set j y):=by
 rintro g cs ds x y ⟨hl,h⟩ hy;have hb:(j+1)*t.size<=n*t.size:=Nat.mul_le_mul_right _ hj;rw [Nat.add_mul,Nat.one_mul] at hb;refine ⟨by rw [h.1,t.len hy,hl];exact hb,by rw [List.length_set];exact hl,h.set hy (by omega)⟩
theorem Op1.indexAddrB{P:Program}{d:Option Tmp}{ty:TypeId}{pos:String}{aft:Array Edge}{gd:Option (Nat×Bool)}{env:Env}{res:Rs}{T E:TypeId}{n b sz:Nat}{x y:Operand}{k:IntKind}{i:Int}(hT:P.underlying T=some (.array n E))(hsz:∀ w,(sizeOf E).run P w= .ok sz w)(hx:Opd env x (Bp b 0))(hy:Opd env y ((tI k).is i))(hi:0<=i/\i<n) :
  Op1 P ⟨d,.indexAddr T x y,ty,pos,aft,gd⟩ env res (Bp b (i.toNat*sz)):=
 Op1.same λa g hc=>by
  have hv:a.eval x= .pointer (some ⟨b,0,none⟩):=hx a g hc.henv;have hw:=(hy.atInt hc).1;refine ⟨.pointer (some ⟨b,i.toNat*sz,none⟩),?_,rfl⟩;simp [execOp,hv,hw,Instr.indexAt,run_underlying hT,Instr.sureAddr,hsz,hi,asIntOf,Addr.add_lit]
end Go.Dec
/-
  Contracts of the shelf's, in these readings: Contains, Repeat.
-/
namespace Go.Dec
open Go Go.RowKit
theorem BP(l:Str):∀ c:Nat,(Lib.repeatL l c).length=l.length*c
 | 0=>rfl
 | c+1=>by rw [Lib.repeatL,List.length_append,BP l c,Nat.mul_succ];omega
theorem Ga{P:Program}{f:FuncId}
  (hsp:∀ (s:ByteArray) (c:Nat) (w:World),c<=9223372036854775807->s.size*c<=140737488355328->
   Calls P f #[.string s,.int .i64 c] w λe w'=>e= .returned (.string ⟨(Lib.repeatL s.data.toList c).toArray⟩)/\Below w.heap.size w w')
  (s:Str) (n:Int) (r:Str) (hm:repeatM s n=some r):FSpec P f [tS.is s,(tI .i64).is n] (tS.is r):=by
 unfold repeatM at hm;split at hm
 .rename_i h;cases hm;refine aR.pure (F9 λg vs hvs hr=>?_)
  match vs,hvs with
  | [v1,v2],hvs=>
   obtain ⟨⟨_,⟨rfl,hl1⟩,rfl⟩,⟨_,⟨rfl,hn⟩,rfl⟩,_⟩:=hvs;have hb:=inR64.1 hn;have hsz:(str s).size=s.length:=by simp [str,ByteArray.size]
   have hc:((n.toNat:Nat):Int)=n:=by omega
   have:=hsp (str s) n.toNat g.w (by omega) (by rw [hsz];exact h.2);rw [hc] at this;refine this.mono ?_;rintro e w' ⟨rfl,hbl⟩;have e1:(str s).data.toList=s:=by simp [str]
   rw [e1];exact ⟨_,rfl,hbl,λg'=>⟨_,⟨rfl,by rw [BP];unfold lim;exact h.2⟩,rfl⟩⟩
 .cases hm
end Go.Dec
/-
  Maps that are no longer written: plain values.
-/
namespace Go.Dec
open Go
theorem G.Full.map{g:G}{b:Nat}{es:Array MapEntry}{k:Nat}(h:g.Full b (.inr (es,k))):g.w.heap[b]? =some (.map es k):=by
 have hlt:=h.lt;rcases h.row (o:=g.w.heap[b]'hlt) (Array.getElem?_eq_getElem hlt) with ⟨_,_,_,_,e⟩ | ⟨es',k',ho,e,_⟩
 .cases e
 .cases e;rw [Array.getElem?_eq_getElem hlt,ho]
end Go.Dec
/-
  Maps whose values are slices of the call's own, grown in place: m[k] = append(m[k], x).
-/
namespace Go.Dec
open Go
variable {A:Asn}{α:Type}{x y:α}
def CvT(g:G){α:Type}(s t:Ty α)(x y:α):Prop:=∀ cs,s.rep g cs x->t.rep g cs y
theorem CvT.pair{g:G}{β:Type}{s s':Ty α}{t t':Ty β}{x y:α×β}(h:CvT g s s' x.1 y.1)(k:CvT g t t' x.2 y.2):CvT g (tP s t) (tP s' t') x y:=by
 rintro cs ⟨c1,c2,rfl,h1,h2⟩;exact ⟨c1,c2,rfl,h _ h1,k _ h2⟩
theorem CvT.one{g:G}{s s':Ty α}(h:CvT g s s' x y):CvT g (tOne s) (tOne s') x y:=h
theorem CvT.map{g:G}{β:Type}{t t':Ty β}{m:α->β}(h:CvT g t t' (m x) (m y)):CvT g (tMap t m) (tMap t' m) x y:=h
theorem CvT.same{g:G}{t:Ty α}:CvT g t t x x:=λ_ h=>h
theorem CvT.is{g:G}{s t:Ty α}{v:Value}(ha:s.agg=t.agg)(h:CvT g s t x y)(hv:(s.is x).holds v g):(t.is y).holds v g:=by
 obtain ⟨cs,h1,h2⟩:=hv;exact ⟨cs,h _ h1,by rw [<-ha];exact h2⟩
section
variable {P:Program} {N:Nat} {g0:G} {T0:Nat->Prop} {env:Env} {res:Rs}
theorem St.slotG{s:Nat}{A':Asn}(hs:look s env=some A)(hA:∀ v g,res.all g->A.holds v g->A'.holds v g){a:Act}{g:G}(h:St N g0 T0 env res a g):St N g0 T0 ((s,A') :: env) res a g:=by
 refine ⟨h.sz,h.dfr,λs' B hB=>?_,h.hres,h.dis,h.own,h.ext⟩;by_cases hk:s=s'
 .subst hk;rw [dh] at hB;cases hB;exact hA _ _ h.hres (h.henv s _ hs)
 .rw [bL _ _ hk] at hB;exact h.henv s' B hB
theorem W.slotG{c:Code}{ks:List KF}{B:Exit->Act->World->Prop}(A':Asn)(s:Nat)(hs:look s env=some A)(hA:∀ v g,res.all g->A.holds v g->A'.holds v g)(k:W P N g0 T0 c ks B ((s,A') :: env) res):W P N g0 T0 c ks B env res:=λa g h=>k a g (h.slotG hs hA)
theorem St.boxG{n:Nat}{agg:Bool}{T:TypeId}{A':Asn}{b key:Nat}(h1:findR key res=some (Bx n agg T A b))(hA:∀ v g,res.all g->A.holds v g->A'.holds v g){a:Act}{g:G}(h:St N g0 T0 env res a g):St N g0 T0 env ((key,Bx n agg T A' b) :: res.drop [key]) a g:=by
 have m1:=fO h1;have hd:∀ y∈res.drop [key],y∈res/\y.1≠key:=λy hy=>by
  have:=List.mem_filter.1 hy;refine ⟨this.1,λe=>?_⟩;have h3:=this.2;rw [gG.2 (show y.1∈ [key] by rw [e];simp)] at h3;cases h3
 refine ⟨h.sz,h.dfr,h.henv,λy hy=>?_,?_,λb' ⟨y,hy,hb⟩=>?_,h.ext⟩
 .rcases List.mem_cons.1 hy with rfl | hy
  .obtain ⟨cs,q1,q2,q3,q4,q5,q6⟩:=h.hres _ m1;exact ⟨cs,q1,q2,q3,q4,q5,hA _ _ h.hres q6⟩
  .exact h.hres y (hd y hy).1
 .refine List.pairwise_cons.2 ⟨λy hy b' hb'=>?_,h.dis.filter _⟩;exact h.dis.two _ m1 _ (hd y hy).1 (Ne.symm (hd y hy).2) b' hb'
 .rcases List.mem_cons.1 hy with rfl | hy
  .exact h.own b' ⟨_,m1,hb⟩
  .exact h.own b' ⟨y,(hd y hy).1,hb⟩
theorem WL.boxG{ops:Array Oper}{Q:Exit->Act->World->Prop}{l:List Oper}{n:Nat}{agg:Bool}{T:TypeId}{b:Nat}(A':Asn)(key:Nat)(h1:findR key res=some (Bx n agg T A b))(hA:∀ v g,res.all g->A.holds v g->A'.holds v g)(k:WL P N g0 T0 ops Q l env ((key,Bx n agg T A' b) :: res.drop [key])):WL P N g0 T0 ops Q l env res:=λa g hst=>k a g (hst.boxG h1 hA)
theorem Rs.all.at{g:G}{key:Nat}{R:Res}(h:res.all g)(hr:findR key res=some R):R.holds g:=h _ (fO hr)
end
end Go.Dec
