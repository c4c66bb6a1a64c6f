import Derived.Test.YtofaogkcifaioaaDoorPb
/-
  Chapter 11: lines and texts of trees, by both texts.
-/
set_option linter.unusedVariables false
set_option linter.unusedSimpArgs false
namespace Go.Proofs.YtofaogkcifaioaaDoor
open Go Go.Dec
theorem awake11:To (fun n=>M.law11_awake n) true:=by
 refine To.far 100 fun m=>?_
 kernel_rfl
def esc:Str→Str
 | []=>[]
 | c :: r=>if c.toNat=124∨c.toNat=92 then 92 :: c :: r else c :: r
def putS(l:List api_Word):Str:=tailS ((txts l).map esc)
def labS(u:api_Unit):Str:=if u.Kind=0 then [] else 32 :: u.Label
def headS(u:api_Unit):Str:=if u.Head.length=0 then [] else 58 :: putS u.Head
def wordS(u:api_Unit):Str:=if u.Words.length=0 then [] else 32 :: 124 :: putS u.Words
def bodyS(u:api_Unit):Str:=nameOf u.Kind++(labS u++(headS u++wordS u))
def spc(d:Nat):Str:=List.replicate (2*d) 32
def okL(u:api_Unit)(d:Int):Bool:=decide (0≤d) && decide (d≤8) && aloB u
def lineS(u:api_Unit)(d:Int):Str:=if okL u d=true then spc d.toNat++bodyS u else []
theorem esc_cons(c:UInt8)(r:Str):esc (c :: r)=if c.toNat=124∨c.toNat=92 then 92 :: c :: r else c :: r:=rfl
theorem esc_len(t:Str):(esc t).length≤t.length+1:=by
 cases t with
 | nil=>simp [esc]
 | cons c r=>
  rw [esc_cons]
  split
  ·simp
  ·simp
theorem wordB_len{t:Str}(h:wordB t=true):1≤t.length∧t.length≤24:=by
 unfold wordB at h
 simp only [Bool.and_eq_true,decide_eq_true_eq] at h
 exact h.1
theorem rowB_mem{l:List api_Word}(h:rowB l=true):l.length≤256∧ ∀ w∈l,wordB w.Text=true:=by
 unfold rowB seqB txts at h
 simp only [Bool.and_eq_true,decide_eq_true_eq,List.length_map,List.all_map,List.all_eq_true,Function.comp_apply] at h
 exact h
theorem putS_len{l:List api_Word}(h:∀ w∈l,wordB w.Text=true):(putS l).length≤26*l.length:=by
 unfold putS
 induction l with
 | nil=>simp [txts,tailS]
 | cons w l ih=>
  have h1:=wordB_len (h w (by simp))
  have h2:=esc_len w.Text
  have h3:=ih (fun x hx=>h x (by simp [hx]))
  have e:tailS ((txts (w :: l)).map esc)=32 :: (esc w.Text++tailS ((txts l).map esc)):=rfl
  rw [e]
  simp only [List.length_cons,List.length_append]
  omega
theorem labB_len{s:Str}(h:labB s=true):s.length≤7:=by
 unfold labB at h
 simp only [Bool.and_eq_true,decide_eq_true_eq] at h
 omega
theorem name_len(k:Int):(nameOf k).length≤9:=by
 by_cases h:0≤k∧k≤7
 ·obtain ⟨m,rfl⟩:∃ m:Nat,k=(m:Int):=⟨k.toNat,by omega⟩
  have hm:m=0∨m=1∨m=2∨m=3∨m=4∨m=5∨m=6∨m=7:=by omega
  rcases hm with rfl | rfl | rfl | rfl | rfl | rfl | rfl | rfl<;> decide
 ·rw [name_ne.2 h];simp
theorem alo_out{u:api_Unit}(h:aloB u=true):0≤u.Kind∧u.Kind≤7∧(u.Kind=0→u.Label= []∧u.Head= []∧u.Words= [])∧(u.Kind≠0→labB u.Label=true)∧(u.Head.length≤256∧ ∀ w∈u.Head,wordB w.Text=true)∧(u.Words.length≤256∧ ∀ w∈u.Words,wordB w.Text=true):=by
 unfold aloB at h
 by_cases h0:u.Kind=0
 ·rw [if_pos h0] at h
  simp only [Bool.and_eq_true,beq_iff_eq] at h
  obtain ⟨⟨h1,h2⟩,h3⟩:=h
  have h2:=List.eq_nil_of_length_eq_zero h2
  have h3:=List.eq_nil_of_length_eq_zero h3
  refine ⟨by omega,by omega,fun _=>⟨h1,h2,h3⟩,fun h=>absurd h0 h,?_,?_⟩
  ·rw [h2];simp
  ·rw [h3];simp
 ·rw [if_neg h0] at h
  simp only [Bool.and_eq_true,decide_eq_true_eq] at h
  obtain ⟨⟨⟨⟨h1,h2⟩,h3⟩,h4⟩,h5⟩:=h
  exact ⟨by omega,h2,fun h=>absurd h h0,fun _=>h3,rowB_mem h4,rowB_mem h5⟩
theorem body_len{u:api_Unit}(h:aloB u=true):(bodyS u).length≤20000:=by
 obtain ⟨_,_,h0,h1,h2,h3⟩:=alo_out h
 have n:=name_len u.Kind
 have a:(labS u).length≤8:=by
  unfold labS
  split
  ·simp
  ·rename_i hk
   have:=labB_len (h1 hk)
   simp;omega
 have b:(headS u).length≤7000:=by
  unfold headS
  split
  ·simp
  ·have:=putS_len h2.2
   simp;omega
 have c:(wordS u).length≤7000:=by
  unfold wordS
  split
  ·simp
  ·have:=putS_len h3.2
   simp;omega
 unfold bodyS
 simp only [List.length_append]
 omega
theorem put_loop:∀ (l:List api_Word) (s:Str),(∀ w∈l,wordB w.Text=true)→s.length+26*l.length≤1000000→M.plaintext_put_loop1 l s=some (s++putS l)
 | [],s,_,_=>by simp [M.plaintext_put_loop1,putS,txts,tailS]
 | w :: l,s,hw,hs=>by
  have h1:=wordB_len (hw w (by simp))
  simp only [List.length_cons] at hs
  obtain ⟨c,r,hc⟩:∃ c r,w.Text=c :: r:=by
   cases h:w.Text with
   | nil=>rw [h] at h1;simp at h1
   | cons c r=>exact ⟨c,r,rfl⟩
  have hput:putS (w :: l)=32 :: (esc w.Text++putS l):=rfl
  have hi:idx w.Text (0:Int)=some c:=by rw [hc];exact idx_zero
  simp only [M.plaintext_put_loop1]
  rw [catC_eq (by simp;omega),Option.bind_some,hi,Option.bind_some,Option.bind_some]
  by_cases h124:(c.toNat:Int)=124
  ·have he:esc w.Text=92 :: w.Text:=by
    rw [hc,esc_cons,if_pos (.inl (by omega))]
   rw [if_pos h124,Option.bind_some,if_pos rfl,catC_eq (by simp;omega),Option.bind_some,catC_eq (by simp;omega),Option.bind_some,put_loop l _ (fun x hx=>hw x (by simp [hx])) (by simp;omega),hput,he]
   simp
  ·rw [if_neg h124,Option.bind_some]
   by_cases h92:(c.toNat:Int)=92
   ·have he:esc w.Text=92 :: w.Text:=by
     rw [hc,esc_cons,if_pos (.inr (by omega))]
    rw [decide_eq_true h92,if_pos rfl,catC_eq (by simp;omega),Option.bind_some,catC_eq (by simp;omega),Option.bind_some,put_loop l _ (fun x hx=>hw x (by simp [hx])) (by simp;omega),hput,he]
    simp
   ·have he:esc w.Text=w.Text:=by
     rw [hc,esc_cons,if_neg (by omega)]
    rw [decide_eq_false h92,if_neg (by decide),catC_eq (by simp;omega),Option.bind_some,put_loop l _ (fun x hx=>hw x (by simp [hx])) (by simp;omega),hput,he]
    simp
theorem put_ok(l:List api_Word)(s:Str)(hw:∀ w∈l,wordB w.Text=true)(hs:s.length+26*l.length≤1000000):M.plaintext_put s l=some (s++putS l):=by
 unfold M.plaintext_put
 rw [put_loop l s hw hs];rfl
theorem spc_succ(d:Nat):spc (d+1)=32 :: 32 :: spc d:=by
 unfold spc
 rw [show 2*(d+1)=(2*d+1)+1 by omega,List.replicate_succ,List.replicate_succ]
theorem rep_spc:∀ d:Nat,Lib.repeatL [32,32] d=spc d
 | 0=>rfl
 | d+1=>by
  rw [Lib.repeatL,rep_spc d,spc_succ]
  rfl
theorem alone_small{u:api_Unit}(h:smallU u):smT {u with Id:=zapi_Id,Kids:=[]}∧valT {u with Id:=zapi_Id,Kids:=[]}=aloB u:=by
 have hd:desc {u with Id:=zapi_Id,Kids:=[]}= [{u with Id:=zapi_Id,Kids:=[]}]:=by rw [desc_eq];rfl
 refine ⟨⟨by unfold cnt;rw [hd];simp,fun x hx=>?_⟩,?_⟩
 ·rw [hd] at hx
  rw [List.mem_singleton.1 hx]
  exact h
 ·unfold valT cnt
  rw [hd,dp_eq]
  simp [okU,kidB,aloB]
theorem may_p(u:api_Unit)(h:smallU u)(d:Int):To (fun n=>M.plaintext_may n u d) (okL u d):=by
 simp only [M.plaintext_may]
 unfold okL
 by_cases h0:0≤d
 ·by_cases h8:d≤8
  ·refine To.pos h0 (To.pos h8 ?_)
   obtain ⟨h1,h2⟩:=alone_small h
   refine To.bind (strip_ok _ h1) (To.bind (valid_p _ h1) (To.pure.of (h2.trans ?_)))
   simp [h0,h8]
  ·exact To.pos h0 (To.neg h8 (To.pure.of (by simp [h8])))
 ·exact To.neg h0 (To.pure.of (by simp [h0]))
theorem line_p(u:api_Unit)(h:smallU u)(d:Int):To (fun n=>M.plaintext_FormatLine n u d) (lineS u d):=by
 simp only [M.plaintext_FormatLine]
 refine To.bind (may_p u h d) ?_
 unfold lineS
 cases ho:okL u d with
 | false=>exact To.pos rfl To.pure
 | true=>
  unfold okL at ho
  simp only [Bool.and_eq_true,decide_eq_true_eq] at ho
  obtain ⟨⟨h0,h8⟩,ha⟩:=ho
  obtain ⟨k0,k7,hz,hl,hh,hw⟩:=alo_out ha
  obtain ⟨m,rfl⟩:∃ m:Nat,d=(m:Int):=⟨d.toNat,by omega⟩
  have hn:=name_len u.Kind
  have hsl:(spc m).length≤16:=by simp [spc];omega
  have hrep:Dec.repeatM [32,32] (m:Int)=some (spc m):=by
   unfold Dec.repeatM
   rw [if_pos (by simp;omega),Int.toNat_natCast,rep_spc]
  have hlb:(labS u).length≤8:=by
   unfold labS
   split
   ·simp
   ·rename_i hk
    have:=labB_len (hl hk)
    simp;omega
  have hhb:(headS u).length≤7000:=by
   unfold headS
   split
   ·simp
   ·have:=putS_len hh.2
    simp;omega
  refine To.neg (by simp) (To.bindS hrep (To.bindS (kname _) (To.bindS (catC_eq (by omega)) (To.bind (a:=spc m++nameOf u.Kind++labS u) ?_ (To.bind (a:=spc m++nameOf u.Kind++labS u++headS u) ?_ ?_)))))
  ·by_cases hk:u.Kind=0
   ·refine To.neg (by simpa using hk) (To.pure.of ?_)
    unfold labS;rw [if_pos hk];simp
   ·have:=labB_len (hl hk)
    refine To.pos hk (To.bindS (catC_eq (by simp;omega)) (To.bindS (catC_eq (by simp;omega)) (To.pure.of ?_)))
    unfold labS;rw [if_neg hk];simp
  ·by_cases hk:u.Head.length=0
   ·refine To.neg (by omega) (To.pure.of ?_)
    unfold headS;rw [if_pos hk];simp
   ·refine To.pos (by omega) (To.bindS (catC_eq (by simp;omega)) (To.bindS (put_ok u.Head _ hh.2 (by simp;omega)) (To.pure.of ?_)))
    unfold headS;rw [if_neg hk];simp
  ·rw [if_pos rfl,Int.toNat_natCast]
   by_cases hk:u.Words.length=0
   ·refine To.neg (by omega) (To.pure.of ?_)
    unfold bodyS wordS;rw [if_pos hk];simp
   ·refine To.pos (by omega) (To.bindS (catC_eq (by simp;omega)) (To.bindS (put_ok u.Words _ hw.2 (by simp;omega)) (To.pure.of ?_)))
    unfold bodyS wordS;rw [if_neg hk];simp
def pre(u:api_Unit)(d:Nat):List (api_Unit×Nat):=(u,d) :: u.Kids.attach.flatMap (fun k=>pre k.1 (d+1))
termination_by SizeOf.sizeOf u
decreasing_by exact kid_lt k.2
theorem pre_eq(u:api_Unit)(d:Nat):pre u d=(u,d) :: u.Kids.flatMap (fun k=>pre k (d+1)):=by
 rw [pre,List.flatMap_def,List.flatMap_def,map_at (fun k=>pre k (d+1))]
def lns(l:List (api_Unit×Nat)):List Str:=l.map fun p=>lineS p.1 (p.2:Int)
def linesT(u:api_Unit)(d:Nat):List Str:=lns (pre u d)
def textN(l:List Str):Str:=l.flatMap fun s=>s++ [10]
theorem pre_desc(u:api_Unit):∀ d,(pre u d).map Prod.fst=desc u:=by
 refine uind (P:=fun u=>∀ d,(pre u d).map Prod.fst=desc u) ?_ u
 intro u ih d
 rw [pre_eq,desc_eq,List.map_cons,List.map_flatMap]
 congr 1
 rw [List.flatMap_def,List.flatMap_def]
 congr 1
 exact List.map_congr_left fun k hk=>ih k hk (d+1)
theorem pre_len(u:api_Unit)(d:Nat):(pre u d).length=cnt u:=by unfold cnt;rw [←pre_desc u d,List.length_map]
theorem line_len(u:api_Unit)(d:Int):(lineS u d).length≤20016:=by
 unfold lineS
 split
 ·rename_i h
  unfold okL at h
  simp only [Bool.and_eq_true,decide_eq_true_eq] at h
  have:=body_len h.2
  simp [spc];omega
 ·simp
theorem lines_loop(u:api_Unit):smT u→∀ (d:Nat) (c:List Str),d+dp u≤1000000→c.length+cnt u≤100000000→To (fun n=>M.plaintext_Lines_1 n u (d:Int) c) (c++linesT u d):=by
 refine uind (P:=fun u=>smT u→∀ (d:Nat) (c:List Str),d+dp u≤1000000→c.length+cnt u≤100000000→To (fun n=>M.plaintext_Lines_1 n u (d:Int) c) (c++linesT u d)) ?_ u
 intro u ih h d c hd hc
 rw [cnt_eq] at hc
 have loop:∀ (l:List api_Unit) (slf:Nat→api_Unit→Int→List Str→Option (List Str)) (c:List Str),d+1≤1000001→(∀ k∈l,∀ c:List Str,c.length+cnt k≤100000000→To (fun n=>slf n k ((d+1:Nat):Int) c) (c++linesT k (d+1)))→c.length+(l.map cnt).sum≤100000000→To (fun n=>M.plaintext_Lines_1_loop1 (d:Int) (slf n) l c) (c++lns (l.flatMap fun k=>pre k (d+1))):=by
  intro l
  induction l with
  | nil=>intro slf c _ _ _;simp only [M.plaintext_Lines_1_loop1];exact To.pure.of (by simp [lns])
  | cons x l ihl=>
   intro slf c hd1 hs hc
   simp only [List.map_cons,List.sum_cons] at hc
   simp only [M.plaintext_Lines_1_loop1]
   refine To.bindS (addC_succ (by omega)) (To.bind (hs x (by simp) c (by omega)) ?_)
   refine (ihl slf _ hd1 (fun k hk=>hs k (by simp [hk])) ?_).of ?_
   ·simp only [List.length_append,linesT,lns,List.length_map,pre_len];omega
   ·simp [linesT,lns]
 refine To.succ ?_
 simp only [M.plaintext_Lines_1]
 refine To.bind (line_p u (smT_self h) d) (To.bindS (appC_eq (by simp;omega)) (To.bind (loop u.Kids (fun n=>M.plaintext_Lines_1 n) _ (by omega) (fun k hk c hc=>ih k hk (smT_kid h hk) (d+1) c (by have:=(dp_le u (dp u)).1 (Nat.le_refl _) k hk;omega) hc) (by simp;omega)) (To.pure.of ?_)))
 unfold linesT
 rw [pre_eq];simp [lns]
theorem lines_p(u:api_Unit)(h:smT u):To (fun n=>M.plaintext_Lines n u) (if valT u=true then linesT u 0 else []):=by
 simp only [M.plaintext_Lines]
 refine To.bind (strip_ok u h) (To.bind (valid_p u h) ?_)
 cases hv:valT u with
 | false=>exact To.pos rfl (To.pure.of (by simp))
 | true=>
  have hd:dp u≤8:=by
   unfold valT at hv
   simp only [Bool.and_eq_true,decide_eq_true_eq] at hv
   exact hv.1.2
  refine To.neg (by simp) (To.bind (lines_loop u h 0 [] (by omega) (by have:=h.1;simp;omega)) (To.pure.of (by simp)))
theorem joinN_text:∀ (l:List Str) (x:Str),joinN (x :: l)++ [10]=textN (x :: l)
 | [],x=>by simp [joinN,tailN,textN]
 | y :: l,x=>by
  have ih:=joinN_text l y
  have e1:joinN (x :: y :: l)=x++10 :: joinN (y :: l):=by simp [joinN,tailN]
  have e2:textN (x :: y :: l)=x++10 :: textN (y :: l):=by simp [textN]
  rw [e1,e2,←ih];simp
theorem total_lns(l:List (api_Unit×Nat)):total (lns l)≤20017*l.length:=by
 induction l with
 | nil=>simp [total,lns]
 | cons p l ih=>
  have h1:=line_len p.1 (p.2:Int)
  have e:total (lns (p :: l))=(lineS p.1 (p.2:Int)).length+1+total (lns l):=by simp [total,lns]
  rw [e]
  simp only [List.length_cons]
  omega
theorem textN_len(l:List Str):(textN l).length=total l:=by
 induction l with
 | nil=>rfl
 | cons x l ih=>
  have e:textN (x :: l)=x++10 :: textN l:=by simp [textN]
  rw [e]
  simp only [List.length_append,List.length_cons,ih]
  simp [total];omega
def fmtT(u:api_Unit):Str×Int:=if valT u=true then (if 16384<(textN (linesT u 0)).length then ([],6) else (textN (linesT u 0),0)) else ([],1)
theorem val_cnt{u:api_Unit}(h:valT u=true):cnt u≤1024∧dp u≤8∧ ∀ x∈desc u,okU x=true:=by
 unfold valT at h
 simp only [Bool.and_eq_true,decide_eq_true_eq,List.all_eq_true] at h
 exact ⟨h.2,h.1.2,h.1.1⟩
theorem format_p(u:api_Unit)(h:smT u):To (fun n=>M.plaintext_Format n u) (fmtT u):=by
 simp only [M.plaintext_Format]
 refine To.bind (lines_p u h) ?_
 unfold fmtT
 by_cases hv:valT u=true
 ·rw [if_pos hv,if_pos hv]
  have hc:=val_cnt hv
  have ht:=total_lns (pre u 0)
  rw [pre_len] at ht
  obtain ⟨x,l,hl⟩:∃ x l,linesT u 0=x :: l:=by
   unfold linesT;rw [pre_eq];exact ⟨_,_,rfl⟩
  have ht':total (linesT u 0)≤20017*1024:=Nat.le_trans ht (Nat.mul_le_mul_left _ hc.1)
  have hj:=join_okN (linesT u 0) (by omega)
  refine To.neg (by rw [hl];simp;omega) (To.bindS hj ?_)
  have htl:=textN_len (linesT u 0)
  have he:joinN (linesT u 0)++ [10]=textN (linesT u 0):=by rw [hl];exact joinN_text l x
  have hel:(joinN (linesT u 0)).length+1=(textN (linesT u 0)).length:=by rw [←he];simp
  refine To.bindS (catC_eq (by simp;omega)) ?_
  rw [he]
  by_cases hb:16384<(textN (linesT u 0)).length
  ·rw [if_pos hb]
   exact To.pos (by omega) To.pure
  ·rw [if_neg hb]
   exact To.neg (by omega) To.pure
 ·rw [if_neg hv,if_neg hv]
  exact To.pos (by simp) To.pure
end Go.Proofs.YtofaogkcifaioaaDoor
/-
  Chapter 11: what a line describes, by both texts.
-/
set_option linter.unusedVariables false
set_option linter.unusedSimpArgs false
namespace Go.Proofs.YtofaogkcifaioaaDoor
open Go Go.Dec
def sp(b:UInt8):Bool:=b==32
def mkW(t:Str):api_Word:=⟨t,zapi_Mark⟩
def mkU(k:Int)(l:Str)(h w:List Str):api_Unit:=⟨zapi_Id,k,l,h.map mkW,w.map mkW,[]⟩
def unesc:Str→Str
 | []=>[]
 | c :: r=>if c=92 then r else c :: r
theorem unesc_cons(c:UInt8)(r:Str):unesc (c :: r)=if c=92 then r else c :: r:=rfl
def cutC(a:Str):Str×Bool:=if a.getLast? =some 58 then (a.dropLast,true) else (a,false)
def isBar(t:Str):Bool:=t== [124]
def upto(l:List Str):List Str:=l.takeWhile fun t=>!isBar t
def from1(l:List Str):List Str:=l.dropWhile fun t=>!isBar t
def candP:List Str→Option api_Unit
 | []=>none
 | x :: l=>match kd x with
  | none=>none
  | some k=>if k=0 then some (mkU 0 [] [] []) else match l with
   | []=>some (mkU k [] [] [])
   | a :: ws=>some (mkU k (cutC a).1 (if (cutC a).2=true then (upto ws).map unesc else []) (((from1 ws).drop 1).map unesc))
theorem candP_none{x:Str}{l:List Str}(h:kd x=none):candP (x :: l)=none:=by
 show (match kd x with | none=>none | some k=>_)=_
 rw [h]
theorem candP_some{x:Str}{l:List Str}{k:Int}(h:kd x=some k):candP (x :: l)=if k=0 then some (mkU 0 [] [] []) else match l with
   | []=>some (mkU k [] [] [])
   | a :: ws=>some (mkU k (cutC a).1 (if (cutC a).2=true then (upto ws).map unesc else []) (((from1 ws).drop 1).map unesc)):=by
 show (match kd x with | none=>none | some k=>_)=_
 rw [h]
def bareU(u:api_Unit):Prop:=∃ k l h w,u=mkU k l h w
def depS(s:Str):Nat:=(s.length-(s.dropWhile sp).length) / 2
def rdL(s:Str):Option (api_Unit×Nat):=match candP (splitC 32 (s.dropWhile sp)) with
 | none=>none
 | some u=>if lineS u (depS s:Int)=s then some (u,depS s) else none
def isL(s:Str)(u:api_Unit)(d:Nat):Prop:=bareU u∧okL u (d:Int)=true∧lineS u (d:Int)=s
theorem candP_bare{l:List Str}{u:api_Unit}(h:candP l=some u):bareU u:=by
 unfold candP at h
 split at h
 ·cases h
 ·split at h
  ·cases h
  ·split at h
   ·cases h;exact ⟨_,_,_,_,rfl⟩
   ·split at h
    ·cases h;exact ⟨_,_,_,_,rfl⟩
    ·cases h;exact ⟨_,_,_,_,rfl⟩
theorem line_ok{u:api_Unit}{d:Int}(h:lineS u d≠ []):okL u d=true:=by
 unfold lineS at h
 split at h
 ·assumption
 ·exact absurd rfl h
theorem rdL_nil:rdL []=none:=by
 have:candP (splitC 32 (([]:Str).dropWhile sp))=none:=by
  exact candP_none (x:=[]) rfl
 unfold rdL
 rw [this]
theorem rdL_some{s:Str}{u:api_Unit}{d:Nat}(h:rdL s=some (u,d)):isL s u d:=by
 have hs:s≠ []:=by
  rintro rfl
  rw [rdL_nil] at h;cases h
 unfold rdL at h
 split at h
 ·cases h
 ·rename_i v hv
  split at h
  ·rename_i hl
   cases h
   exact ⟨candP_bare hv,line_ok (by rw [hl];exact hs),hl⟩
  ·cases h
theorem trim_ok(s:Str):To (fun n=>M.strings_TrimLeft n s [32]) (s.dropWhile sp):=by
 have loop:∀ s:Str,To (fun n=>M.strings_trimLeftByte_loop1 (32:Int) n s) (s.dropWhile sp):=by
  intro s
  induction s with
  | nil=>
   refine To.succ ?_
   simp only [M.strings_trimLeftByte_loop1]
   exact To.neg (by simp) To.pure
  | cons c r ih=>
   refine To.succ ?_
   simp only [M.strings_trimLeftByte_loop1]
   refine To.pos (by simp) (To.bindS idx_zero ?_)
   by_cases hc:c=32
   ·subst hc
    refine To.pos (by decide) (To.bindS (a:=r) ?_ (ih.of (by rw [List.dropWhile_cons_of_pos (by decide)])))
    unfold slcLo
    rw [if_pos (by simp;omega)];rfl
   ·refine To.neg ?_ (To.pure.of (by rw [List.dropWhile_cons_of_neg (by simpa [sp] using hc)]))
    intro e
    apply hc
    apply UInt8.toNat_inj.1
    show c.toNat=32
    omega
 simp only [M.strings_TrimLeft]
 by_cases hs:s= []
 ·subst hs
  exact To.bind (a:=true) (To.pos (by simp) To.pure) (To.pos rfl To.pure)
 ·refine To.bind (a:=false) (To.neg (by simpa using hs) (To.pure.of (by decide))) (To.neg (by simp) ?_)
  refine To.bind (a:=true) (To.pos (by decide) (To.bindS idx_zero (To.pure.of (by decide)))) (To.pos rfl (To.bindS idx_zero ?_))
  refine To.bind (a:=s.dropWhile sp) ?_ To.pure
  simp only [M.strings_trimLeftByte]
  exact To.bind (loop s) To.pure
theorem unesc_ok(t:Str):M.strings_TrimPrefix t [92]=some (unesc t):=by
 unfold M.strings_TrimPrefix M.internal_stringslite_TrimPrefix M.internal_stringslite_HasPrefix
 cases t with
 | nil=>rfl
 | cons c r=>
  have h1:(([92]:Str).length:Int)≤((c :: r).length:Int):=by simp;omega
  have h2:slcHi (c :: r) (([92]:Str).length:Int)=some [c]:=by
   unfold slcHi
   rw [if_pos (by simp;omega)];rfl
  have h3:slcLo (c :: r) (([92]:Str).length:Int)=some r:=by
   unfold slcLo
   rw [if_pos (by simp;omega)];rfl
  rw [if_pos h1,h2,Option.bind_some,Option.bind_some]
  rw [unesc_cons]
  by_cases hc:c=92
  ·subst hc
   rw [if_pos (by decide),h3,if_pos rfl];rfl
  ·rw [if_neg (by simpa using hc),if_neg hc];rfl
theorem pwords_loop:∀ (l:List Str) (o:List api_Word),o.length+l.length≤100000000→M.plaintext_words_loop1 l o=some (o++(l.map unesc).map mkW)
 | [],o,_=>by simp [M.plaintext_words_loop1]
 | t :: l,o,h=>by
  simp only [List.length_cons] at h
  simp only [M.plaintext_words_loop1]
  rw [unesc_ok,Option.bind_some,appC_eq (by simp;omega),Option.bind_some,pwords_loop l _ (by simp;omega)]
  simp [mkW]
theorem pwords_ok(l:List Str)(h:l.length≤10000000):M.plaintext_words l=some ((l.map unesc).map mkW):=by
 unfold M.plaintext_words
 rw [pwords_loop l [] (by simp;omega)];rfl
theorem cut_suffix(a:Str)(ha:a.length≤1000000000):M.strings_CutSuffix a [58]=some (cutC a):=by
 unfold M.strings_CutSuffix M.internal_stringslite_CutSuffix M.internal_stringslite_HasSuffix cutC
 rcases List.eq_nil_or_concat a with rfl | ⟨r,c,rfl⟩
 ·rfl
 ·rw [List.concat_eq_append] at ha ⊢
  have hl:(r++ [c]).length=r.length+1:=by simp
  have h1:(([58]:Str).length:Int)≤((r++ [c]).length:Int):=by simp;omega
  have h2:subC ((r++ [c]).length:Int) (([58]:Str).length:Int)=some (r.length:Int):=by
   rw [subC_eq (by simp) (by simp;omega)]
   simp
  have h3:slcLo (r++ [c]) (r.length:Int)=some [c]:=by
   unfold slcLo
   rw [if_pos (by simp;omega)]
   simp
  have h4:slcHi (r++ [c]) (r.length:Int)=some r:=by
   unfold slcHi
   rw [if_pos (by simp;omega)]
   simp
  rw [if_pos h1,h2,Option.bind_some,h3,Option.bind_some,Option.bind_some]
  have hg:(r++ [c]).getLast? =some c:=by simp
  rw [hg]
  by_cases hc:c=58
  ·subst hc
   rw [if_neg (by decide),Option.bind_some,h4,Option.bind_some,if_pos rfl]
   simp
  ·rw [if_pos (by simpa using hc),if_neg (by simpa using hc)]
   rfl
theorem bar_ok(l:List Str):To (fun n=>M.slices_Index_string_string n l [124]) (if from1 l= [] then -1 else ((upto l).length:Int)):=by
 have loop:∀ (xs:List Str) (i:Nat),l.drop i=xs→To (fun n=>M.slices_Index_string_string_loop1 l [124] n (i:Int)) (if from1 xs= [] then .inl () else .inr ((i+(upto xs).length:Nat):Int)):=by
  intro xs
  induction xs with
  | nil=>
   intro i hx
   refine To.succ ?_
   simp only [M.slices_Index_string_string_loop1]
   exact To.neg (drop_end hx) (To.pure.of (by simp [from1]))
  | cons x xs ih=>
   intro i hx
   refine To.succ ?_
   simp only [M.slices_Index_string_string_loop1]
   refine To.pos (drop_lt hx) (To.bindS (drop_idx hx) ?_)
   by_cases hb:x= [124]
   ·subst hb
    refine To.pos (by decide) (To.pure.of ?_)
    unfold from1 upto
    rw [List.dropWhile_cons_of_neg (by decide),List.takeWhile_cons_of_neg (by decide),if_neg (by simp)]
    simp
   ·have hn:isBar x=false:=by simpa [isBar] using hb
    refine To.neg (by simpa using fun e=>hb (Eq.symm e)) ?_
    rw [cast_succ]
    refine (ih (i+1) (drop_next hx)).of ?_
    unfold from1 upto
    rw [List.dropWhile_cons_of_pos (by simp [hn]),List.takeWhile_cons_of_pos (by simp [hn])]
    split
    ·rfl
    ·simp only [List.length_cons];congr 2;omega
 simp only [M.slices_Index_string_string]
 refine To.bind (loop l 0 rfl) ?_
 by_cases h:from1 l= []
 ·rw [if_pos h,if_pos h];exact To.pure
 ·rw [if_neg h,if_neg h];exact To.pure.of (by simp)
theorem upto_from(l:List Str):upto l++from1 l=l:=List.takeWhile_append_dropWhile
theorem bar_take(l:List Str):l.take (upto l).length=upto l∧l.drop (upto l).length=from1 l:=by
 have h:=upto_from l
 constructor
 ·calc l.take (upto l).length=(upto l++from1 l).take (upto l).length:=by rw [h]
   _=upto l:=by rw [List.take_append_of_le_length (Nat.le_refl _),List.take_length]
 ·calc l.drop (upto l).length=(upto l++from1 l).drop (upto l).length:=by rw [h]
   _=from1 l:=by simp
theorem drop_le(s:Str):(s.dropWhile sp).length≤s.length:=by
 have:=(List.dropWhile_sublist sp (l:=s)).length_le
 exact this
theorem mkU_small{k:Int}{l:Str}{h w:List Str}{m:Nat}(h1:l.length≤m)(h2:h.length≤m)(h3:w.length≤m)(hm:m≤10000000):smallU (mkU k l h w):=
 ⟨by show l.length≤_;omega,by show (h.map mkW).length≤_;simp;omega,by show (w.map mkW).length≤_;simp;omega⟩
def zU:api_Unit:=mkU 0 [] [] []
def resP(s:Str):api_Unit×Int×Int:=match rdL s with
 | some (u,d)=>(u,(d:Int),0)
 | none=>(zU,0,2)
theorem dep_int(s:Str)(h:s.length≤1000000):∃ v,subC (s.length:Int) ((s.dropWhile sp).length:Int)=some v∧quoC v 2=some (depS s:Int):=by
 have:=drop_le s
 refine ⟨((s.length-(s.dropWhile sp).length:Nat):Int),?_,?_⟩
 ·rw [subC_eq (by omega) (by omega)]
  congr 1;omega
 ·exact quo_nat _ 2 (by omega) (by omega)
theorem cutC_len(a:Str):(cutC a).1.length≤a.length:=by
 unfold cutC
 split
 ·simp
 ·exact Nat.le_refl _
theorem pline_ok(s:Str)(hs:s.length≤100000):To (fun n=>M.plaintext_ParseLine n s) (resP s):=by
 simp only [M.plaintext_ParseLine]
 obtain ⟨v,hv1,hv2⟩:=dep_int s (by omega)
 have hdl:=drop_le s
 have hsp:splitM (s.dropWhile sp) [32]=some (splitC 32 (s.dropWhile sp)):=if_pos (by omega)
 obtain ⟨x,l,hx⟩:=splitC_cons 32 (s.dropWhile sp)
 have hlens:=splitC_lens 32 (s.dropWhile sp)
 have hlen:=splitC_len 32 (s.dropWhile sp)
 rw [hx] at hsp hlens hlen
 simp only [List.length_cons] at hlen
 refine To.bind (trim_ok s) (To.bindS hv1 (To.bindS hv2 (To.bindS hsp (To.bindS idx_zero (To.bind (kind_p x) ?_)))))
 have hrd:rdL s=(match candP (x :: l) with | none=>none | some u=>if lineS u (depS s:Int)=s then some (u,depS s) else none):=by
  unfold rdL;rw [hx]
 have fin:∀ u:api_Unit,smallU u→candP (x :: l)=some u→∀ f:Nat→Option api_Unit,To f u→To (fun n=>Option.bind (f n) fun u=>
   Option.bind (M.plaintext_FormatLine n u (depS s:Int)) fun format=>
   if (format !=s)=true then
    some ((⟨zapi_Id,(0:Int),([]:Str),([]:List api_Word),([]:List api_Word),([]:List api_Unit)⟩:api_Unit),(0:Int),(2:Int))
   else
    some (u,(depS s:Int),(0:Int))) (resP s):=by
  intro u hu hc f hf
  refine To.bind hf (To.bind (line_p u hu _) ?_)
  rw [hc] at hrd
  simp only at hrd
  unfold resP
  by_cases hl:lineS u (depS s:Int)=s
  ·rw [if_pos hl] at hrd
   rw [hrd]
   exact To.neg (by simp [hl]) To.pure
  ·rw [if_neg hl] at hrd
   rw [hrd]
   exact To.pos (by simpa using hl) To.pure
 cases hk:kd x with
 | none=>
  refine To.pos rfl (To.pure.of ?_)
  have:=candP_none (l:=l) hk
  rw [this] at hrd
  simp only at hrd
  unfold resP
  rw [hrd];rfl
 | some k=>
  refine To.neg (by simp) ?_
  have hsl:slcLo (x :: l) (1:Int)=some l:=by
   unfold slcLo
   rw [if_pos (by simp;omega)];rfl
  refine To.bindS hsl ?_
  by_cases hk0:k=0
  ·have hc:candP (x :: l)=some (mkU 0 [] [] []):=by rw [candP_some hk,if_pos hk0]
   refine fin _ (mkU_small (m:=0) (by simp) (by simp) (by simp) (by omega)) hc _ ?_
   refine To.bind (a:=false) (To.neg (by simpa using hk0) To.pure) (To.neg (by simp) (To.pure.of ?_))
   rw [hk0];rfl
  ·cases l with
   | nil=>
    have hc:candP [x]=some (mkU k [] [] []):=by rw [candP_some hk,if_neg hk0]
    refine fin _ (mkU_small (m:=0) (by simp) (by simp) (by simp) (by omega)) hc _ ?_
    exact To.bind (a:=false) (To.pos hk0 (To.pure.of (by simp))) (To.neg (by simp) To.pure)
   | cons a ws=>
    have ha:=hlens a (by simp)
    simp only [List.length_cons] at hlen
    have hcl:=cutC_len a
    have hut:(upto ws).length≤ws.length:=by
     have h1:=congrArg List.length (upto_from ws)
     simp only [List.length_append] at h1;omega
    have hc:candP (x :: a :: ws)=some (mkU k (cutC a).1 (if (cutC a).2=true then (upto ws).map unesc else []) (((from1 ws).drop 1).map unesc)):=by rw [candP_some hk,if_neg hk0]
    have hfl:(from1 ws).length≤ws.length:=by
     have h1:=congrArg List.length (upto_from ws)
     simp only [List.length_append] at h1;omega
    refine fin _ (mkU_small (m:=200000) (by omega) (by split<;> simp<;> omega) (by simp;omega) (by omega)) hc _ ?_
    have hs2:slcLo (a :: ws) (1:Int)=some ws:=by
     unfold slcLo
     rw [if_pos (by simp;omega)];rfl
    refine To.bind (a:=true) (To.pos hk0 (To.pure.of (by simp))) (To.pos rfl (To.bindS idx_zero (To.bindS (cut_suffix a (by omega)) (To.bindS hs2 (To.bind (bar_ok ws) ?_)))))
    -- the bar's place
    have hbar:To (fun n=>if (if from1 ws= [] then (-1:Int) else ((upto ws).length:Int))< (0:Int) then some (ws.length:Int) else some (if from1 ws= [] then (-1:Int) else ((upto ws).length:Int))) ((upto ws).length:Int):=by
     by_cases hf:from1 ws= []
     ·rw [if_pos hf]
      refine To.pos (by omega) (To.pure.of ?_)
      have h1:=upto_from ws
      rw [hf,List.append_nil] at h1
      rw [h1]
     ·rw [if_neg hf]
      exact To.neg (by omega) To.pure
    refine To.bind hbar ?_
    have hsh:slcHi ws ((upto ws).length:Int)=some (upto ws):=by
     unfold slcHi
     rw [if_pos (by omega),Int.toNat_natCast,(bar_take ws).1]
    have hmin:slcLo ws (min (((upto ws).length+1:Nat):Int) (ws.length:Int))=some ((from1 ws).drop 1):=by
     unfold slcLo
     rw [if_pos (by omega)]
     by_cases hf:from1 ws= []
     ·have h1:=upto_from ws
      rw [hf,List.append_nil] at h1
      rw [hf,h1]
      have:(min ((ws.length+1:Nat):Int) (ws.length:Int)).toNat=ws.length:=by omega
      rw [this,List.drop_length];rfl
     ·have hlt:(upto ws).length<ws.length:=by
       have h1:=congrArg List.length (upto_from ws)
       have h2:=List.length_pos_iff.2 hf
       simp only [List.length_append] at h1;omega
      have:(min (((upto ws).length+1:Nat):Int) (ws.length:Int)).toNat=(upto ws).length+1:=by omega
      rw [this,←(bar_take ws).2,List.drop_drop]
    refine To.bind (a:=mkU k (cutC a).1 (if (cutC a).2=true then (upto ws).map unesc else []) []) ?_ ?_
    ·cases hcc:(cutC a).2 with
     | true=>
      refine To.pos rfl (To.bindS hsh (To.bindS (pwords_ok _ (by omega)) (To.pure.of ?_)))
      rfl
     | false=>exact To.neg (by simp) (To.pure.of rfl)
    ·refine To.bindS (addC_succ (by omega)) (To.bindS hmin (To.bindS (pwords_ok _ (by simp;omega)) (To.pure.of ?_)))
     rfl
end Go.Proofs.YtofaogkcifaioaaDoor
