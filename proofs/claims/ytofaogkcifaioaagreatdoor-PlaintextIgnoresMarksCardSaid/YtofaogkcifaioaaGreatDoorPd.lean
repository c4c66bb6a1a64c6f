import Derived.Test.YtofaogkcifaioaaGreatDoorPb
/-
  Chapter 11: lines and texts of trees, by both texts.
-/
set_option linter.unusedVariables false
set_option linter.unusedSimpArgs false
namespace Go.Proofs.YtofaogkcifaioaaGreatDoor
open Go Go.Dec
theorem short11_words{s0:Nat→Int→Option (Unit ⊕ Bool)}(l:List api_Word)(hs:∀ n i,s0 (n+1) i=if i<(l.length:Int) then Option.bind (idx l i) fun v=>if (200:Int)< (v.Text.length:Int) then some (.inr false) else s0 n (i+1) else some (.inl ())) :
  ∀ (xs:List api_Word) (i:Nat),l.drop i=xs→∃ c,To (fun n=>s0 n (i:Int)) c∧(c= .inl ()∨c= .inr false)
 | [],i,hx=>⟨.inl (),To.succ ((To.neg (drop_end hx) To.pure).eq fun n=>hs n i),.inl rfl⟩
 | x :: xs,i,hx=>by
  by_cases h:(200:Int)< (x.Text.length:Int)
  ·exact ⟨.inr false,To.succ ((To.pos (drop_lt hx) (To.bindS (drop_idx hx) (To.pos h To.pure))).eq fun n=>hs n i),.inr rfl⟩
  ·obtain ⟨c,hc,ho⟩:=short11_words l hs xs (i+1) (drop_next hx)
   rw [←cast_succ] at hc
   exact ⟨c,To.succ ((To.pos (drop_lt hx) (To.bindS (drop_idx hx) (To.neg h hc))).eq fun n=>hs n i),ho⟩
theorem short11(u:api_Unit):∃ b,To (fun n=>M.law11_short n u) b:=by
 refine uind (P:=fun u=>∃ b,To (fun n=>M.law11_short n u) b) ?_ u
 intro u ih
 have loop:∀ (xs:List api_Unit) (i:Nat) (slf:Nat→api_Unit→Option Bool),u.Kids.drop i=xs→(∀ k∈xs,∃ b,To (fun n=>slf n k) b)→∃ c,To (fun n=>M.law11_short_loop3 u (slf n) n (i:Int)) c:=by
  intro xs
  induction xs with
  | nil=>
   intro i slf hx _
   refine ⟨.inl (),To.succ ?_⟩
   simp only [M.law11_short_loop3]
   exact To.neg (drop_end hx) To.pure
  | cons x xs ihl=>
   intro i slf hx hs
   obtain ⟨b,hb⟩:=hs x (by simp)
   cases b with
   | false=>
    refine ⟨.inr false,To.succ ?_⟩
    simp only [M.law11_short_loop3]
    exact To.pos (drop_lt hx) (To.bindS (drop_idx hx) (To.bind hb.shift (To.pos rfl To.pure)))
   | true=>
    obtain ⟨c,hc⟩:=ihl (i+1) (fun n=>slf (n+1)) (drop_next hx) (fun k hk=>by
     obtain ⟨b,hb⟩:=hs k (by simp [hk])
     exact ⟨b,hb.shift⟩)
    refine ⟨c,To.succ ?_⟩
    simp only [M.law11_short_loop3]
    rw [cast_succ]
    exact To.pos (drop_lt hx) (To.bindS (drop_idx hx) (To.bind hb.shift (To.neg (by simp) hc)))
 obtain ⟨c1,h1,o1⟩:=short11_words u.Head (s0:=M.law11_short_loop1 u) (fun _ _=>rfl) u.Head 0 rfl
 obtain ⟨c2,h2,o2⟩:=short11_words u.Words (s0:=M.law11_short_loop2 u) (fun _ _=>rfl) u.Words 0 rfl
 obtain ⟨c3,h3⟩:=loop u.Kids 0 (fun n=>M.law11_short n) rfl ih
 have e:∀ n,M.law11_short (n+1) u=Option.bind (M.law11_short_loop1 u n (0:Int)) fun
   | .inl _=>
    Option.bind (M.law11_short_loop2 u n (0:Int)) fun
     | .inl _=>
      Option.bind (M.law11_short_loop3 u (M.law11_short n) n (0:Int)) fun
       | .inl _=>
        some true
       | .inr ret0=>some ret0
     | .inr ret0=>some ret0
   | .inr ret0=>some ret0:=fun n=>rfl
 rcases o1 with rfl | rfl
 ·rcases o2 with rfl | rfl
  ·cases c3 with
   | inl _=>
    refine ⟨true,To.succ (To.eq ?_ e)⟩
    refine To.bind h1 ?_
    refine To.bind h2 ?_
    refine To.bind h3 ?_
    exact To.pure
   | inr b=>
    refine ⟨b,To.succ (To.eq ?_ e)⟩
    refine To.bind h1 ?_
    refine To.bind h2 ?_
    refine To.bind h3 ?_
    exact To.pure
  ·refine ⟨false,To.succ (To.eq ?_ e)⟩
   refine To.bind h1 ?_
   refine To.bind h2 ?_
   exact To.pure
 ·refine ⟨false,To.succ (To.eq ?_ e)⟩
  refine To.bind h1 ?_
  exact To.pure
theorem few11(u:api_Unit)(hb:big u):∃ b,To (fun n=>M.law11_few n u) b∧(b=true→smT u∧cnt u≤200):=by
 obtain ⟨f,hf,hfl⟩:=few07 u hb 120 (by omega) (by omega)
 obtain ⟨s,hs⟩:=short11 u
 simp only [M.law11_few]
 cases f with
 | false=>exact ⟨false,To.bind hf (To.neg (by simp) To.pure),fun h=>by cases h⟩
 | true=>
  obtain ⟨h1,h2⟩:=hfl rfl
  exact ⟨s,To.bind hf (To.pos rfl (To.bind hs To.pure)),fun _=>⟨⟨by omega,fun x hx=>by
   have:=h2 x hx
   exact ⟨by omega,by omega,by omega⟩⟩,h1⟩⟩
theorem awake11:To (fun n=>M.law11_awake n) true:=by
 refine To.far 100 fun m=>?_
 kernel_rfl
def esc:Str→Str
 | []=>[]
 | c :: r=>if c.toNat=124∨c.toNat=92 then 92 :: c :: r else c :: r
def putS(l:List api_Word):Str:=tailS ((txts l).map esc)
def labS(u:api_Unit):Str:=if u.Kind=0 then [] else 32 :: u.Label
def headS(u:api_Unit):Str:=if u.Head.length=0 then [] else 58 :: putS u.Head
def wordS(u:api_Unit):Str:=if u.Words.length=0 then [] else 32 :: 124 :: putS u.Words
def bodyS(u:api_Unit):Str:=nameOf u.Kind++(labS u++(headS u++wordS u))
def spc(d:Nat):Str:=List.replicate (2*d) 32
def okL(u:api_Unit)(d:Int):Bool:=decide (0≤d) && decide (d≤8) && aloB u
def lineS(u:api_Unit)(d:Int):Str:=if okL u d=true then spc d.toNat++bodyS u else []
theorem esc_cons(c:UInt8)(r:Str):esc (c :: r)=if c.toNat=124∨c.toNat=92 then 92 :: c :: r else c :: r:=rfl
theorem esc_len(t:Str):(esc t).length≤t.length+1:=by
 cases t with
 | nil=>simp [esc]
 | cons c r=>
  rw [esc_cons]
  split
  ·simp
  ·simp
theorem wordB_len{t:Str}(h:wordB t=true):1≤t.length∧t.length≤24:=by
 unfold wordB at h
 simp only [Bool.and_eq_true,decide_eq_true_eq] at h
 exact h.1
theorem rowB_mem{l:List api_Word}(h:rowB l=true):l.length≤256∧ ∀ w∈l,wordB w.Text=true:=by
 unfold rowB seqB txts at h
 simp only [Bool.and_eq_true,decide_eq_true_eq,List.length_map,List.all_map,List.all_eq_true,Function.comp_apply] at h
 exact h
theorem putS_len{l:List api_Word}(h:∀ w∈l,wordB w.Text=true):(putS l).length≤26*l.length:=by
 unfold putS
 induction l with
 | nil=>simp [txts,tailS]
 | cons w l ih=>
  have h1:=wordB_len (h w (by simp))
  have h2:=esc_len w.Text
  have h3:=ih (fun x hx=>h x (by simp [hx]))
  have e:tailS ((txts (w :: l)).map esc)=32 :: (esc w.Text++tailS ((txts l).map esc)):=rfl
  rw [e]
  simp only [List.length_cons,List.length_append]
  omega
theorem labB_len{s:Str}(h:labB s=true):s.length≤7:=by
 unfold labB at h
 simp only [Bool.and_eq_true,decide_eq_true_eq] at h
 omega
theorem name_len(k:Int):(nameOf k).length≤9:=by
 by_cases h:0≤k∧k≤7
 ·obtain ⟨m,rfl⟩:∃ m:Nat,k=(m:Int):=⟨k.toNat,by omega⟩
  have hm:m=0∨m=1∨m=2∨m=3∨m=4∨m=5∨m=6∨m=7:=by omega
  rcases hm with rfl | rfl | rfl | rfl | rfl | rfl | rfl | rfl<;> decide
 ·rw [name_ne.2 h];simp
theorem alo_out{u:api_Unit}(h:aloB u=true):0≤u.Kind∧u.Kind≤7∧(u.Kind=0→u.Label= []∧u.Head= []∧u.Words= [])∧(u.Kind≠0→labB u.Label=true)∧(u.Head.length≤256∧ ∀ w∈u.Head,wordB w.Text=true)∧(u.Words.length≤256∧ ∀ w∈u.Words,wordB w.Text=true):=by
 unfold aloB at h
 by_cases h0:u.Kind=0
 ·rw [if_pos h0] at h
  simp only [Bool.and_eq_true,beq_iff_eq] at h
  obtain ⟨⟨h1,h2⟩,h3⟩:=h
  have h2:=List.eq_nil_of_length_eq_zero h2
  have h3:=List.eq_nil_of_length_eq_zero h3
  refine ⟨by omega,by omega,fun _=>⟨h1,h2,h3⟩,fun h=>absurd h0 h,?_,?_⟩
  ·rw [h2];simp
  ·rw [h3];simp
 ·rw [if_neg h0] at h
  simp only [Bool.and_eq_true,decide_eq_true_eq] at h
  obtain ⟨⟨⟨⟨h1,h2⟩,h3⟩,h4⟩,h5⟩:=h
  exact ⟨by omega,h2,fun h=>absurd h h0,fun _=>h3,rowB_mem h4,rowB_mem h5⟩
theorem body_len{u:api_Unit}(h:aloB u=true):(bodyS u).length≤20000:=by
 obtain ⟨_,_,h0,h1,h2,h3⟩:=alo_out h
 have n:=name_len u.Kind
 have a:(labS u).length≤8:=by
  unfold labS
  split
  ·simp
  ·rename_i hk
   have:=labB_len (h1 hk)
   simp;omega
 have b:(headS u).length≤7000:=by
  unfold headS
  split
  ·simp
  ·have:=putS_len h2.2
   simp;omega
 have c:(wordS u).length≤7000:=by
  unfold wordS
  split
  ·simp
  ·have:=putS_len h3.2
   simp;omega
 unfold bodyS
 simp only [List.length_append]
 omega
theorem tails_cons(x:Str)(l:List Str):tailS (x :: l)=32 :: (x++tailS l):=rfl
theorem put_loop:∀ (l:List api_Word) (s:Str),(∀ w∈l,wordB w.Text=true)→s.length+26*l.length≤1000000→M.plaintext_put_loop1 l s=some (s++putS l)
 | [],s,_,_=>by simp [M.plaintext_put_loop1,putS,txts,tailS]
 | w :: l,s,hw,hs=>by
  have h1:=wordB_len (hw w (by simp))
  simp only [List.length_cons] at hs
  obtain ⟨c,r,hc⟩:∃ c r,w.Text=c :: r:=by
   cases h:w.Text with
   | nil=>rw [h] at h1;simp at h1
   | cons c r=>exact ⟨c,r,rfl⟩
  have hput:putS (w :: l)=32 :: (esc w.Text++putS l):=rfl
  have hi:idx w.Text (0:Int)=some c:=by rw [hc];exact idx_zero
  simp only [M.plaintext_put_loop1]
  rw [catC_eq (by simp;omega),Option.bind_some,hi,Option.bind_some,Option.bind_some]
  by_cases h124:(c.toNat:Int)=124
  ·have he:esc w.Text=92 :: w.Text:=by
    rw [hc,esc_cons,if_pos (.inl (by omega))]
   rw [if_pos h124,Option.bind_some,if_pos rfl,catC_eq (by simp;omega),Option.bind_some,catC_eq (by simp;omega),Option.bind_some,put_loop l _ (fun x hx=>hw x (by simp [hx])) (by simp;omega),hput,he]
   simp
  ·rw [if_neg h124,Option.bind_some]
   by_cases h92:(c.toNat:Int)=92
   ·have he:esc w.Text=92 :: w.Text:=by
     rw [hc,esc_cons,if_pos (.inr (by omega))]
    rw [decide_eq_true h92,if_pos rfl,catC_eq (by simp;omega),Option.bind_some,catC_eq (by simp;omega),Option.bind_some,put_loop l _ (fun x hx=>hw x (by simp [hx])) (by simp;omega),hput,he]
    simp
   ·have he:esc w.Text=w.Text:=by
     rw [hc,esc_cons,if_neg (by omega)]
    rw [decide_eq_false h92,if_neg (by decide),catC_eq (by simp;omega),Option.bind_some,put_loop l _ (fun x hx=>hw x (by simp [hx])) (by simp;omega),hput,he]
    simp
theorem put_ok(l:List api_Word)(s:Str)(hw:∀ w∈l,wordB w.Text=true)(hs:s.length+26*l.length≤1000000):M.plaintext_put s l=some (s++putS l):=by
 unfold M.plaintext_put
 rw [put_loop l s hw hs];rfl
theorem words_loop(l:List api_Word)(hw:∀ w∈l,wordB w.Text=true)(hl:l.length≤256):∀ (xs:List api_Word) (i:Nat) (s:Str),l.drop i=xs→s.length+26*xs.length≤1000000→To (fun n=>M.r11_words_loop1 l n s (i:Int)) (s++putS xs)
 | [],i,s,hx,hs=>by
  refine To.succ ?_
  simp only [M.r11_words_loop1]
  exact To.neg (drop_end hx) (To.pure.of (by simp [putS,txts,tailS]))
 | w :: xs,i,s,hx,hs=>by
  have hm:w∈l:=by
   have:=(drop_cons hx).2.1
   exact List.mem_of_getElem? this
  have h1:=wordB_len (hw w hm)
  simp only [List.length_cons] at hs
  obtain ⟨c,r,hc⟩:∃ c r,w.Text=c :: r:=by
   cases h:w.Text with
   | nil=>rw [h] at h1;simp at h1
   | cons c r=>exact ⟨c,r,rfl⟩
  have hput:putS (w :: xs)=32 :: (esc w.Text++putS xs):=rfl
  have hi:idx w.Text (0:Int)=some c:=by rw [hc];exact idx_zero
  have ih:=fun s' hs'=>words_loop l hw hl xs (i+1) s' (drop_next hx) hs'
  refine To.succ ?_
  simp only [M.r11_words_loop1]
  refine To.pos (drop_lt hx) (To.bindS (drop_idx hx) ?_)
  have go:∀ b:Bool,(b=true ↔ c.toNat=124∨c.toNat=92)→To (fun n=>if b=true then
     Option.bind (catC ([92]:Str) w.Text) fun v2=>
     Option.bind (catC s ([32]:Str)) fun v3=>
     Option.bind (catC v3 v2) fun v4=>
     M.r11_words_loop1 l n v4 ((i:Int)+1)
    else
     Option.bind (catC s ([32]:Str)) fun v5=>
     Option.bind (catC v5 w.Text) fun v6=>
     M.r11_words_loop1 l n v6 ((i:Int)+1)) (s++putS (w :: xs)):=by
   intro b hb
   rw [cast_succ]
   by_cases h:c.toNat=124∨c.toNat=92
   ·have he:esc w.Text=92 :: w.Text:=by
     rw [hc,esc_cons,if_pos h]
    refine To.pos (hb.2 h) (To.bindS (catC_eq (by simp;omega)) (To.bindS (catC_eq (by simp;omega)) (To.bindS (catC_eq (by simp;omega)) ?_)))
    refine (ih _ (by simp;omega)).of ?_
    rw [hput,he];simp
   ·have he:esc w.Text=w.Text:=by
     rw [hc,esc_cons,if_neg h]
    refine To.neg (fun e=>h (hb.1 e)) (To.bindS (catC_eq (by simp;omega)) (To.bindS (catC_eq (by simp;omega)) ?_))
    refine (ih _ (by simp;omega)).of ?_
    rw [hput,he];simp
  by_cases h124:(c.toNat:Int)=124
  ·exact To.bind (a:=true) (To.bindS hi (To.pos h124 To.pure)) (go true ⟨fun _=>.inl (by omega),fun _=>rfl⟩)
  ·refine To.bind (a:=decide ((c.toNat:Int)=92)) (To.bindS hi (To.neg h124 (To.bindS hi To.pure))) (go _ ?_)
   simp only [decide_eq_true_eq]
   omega
theorem words_r(l:List api_Word)(hw:∀ w∈l,wordB w.Text=true)(hl:l.length≤256):To (fun n=>M.r11_words n l) (putS l):=by
 simp only [M.r11_words]
 refine To.bind (words_loop l hw hl l 0 [] rfl (by simp;omega)) (To.pure.of (by simp))
theorem spc_succ(d:Nat):spc (d+1)=32 :: 32 :: spc d:=by
 unfold spc
 rw [show 2*(d+1)=(2*d+1)+1 by omega,List.replicate_succ,List.replicate_succ]
theorem rep_spc:∀ d:Nat,Lib.repeatL [32,32] d=spc d
 | 0=>rfl
 | d+1=>by
  rw [Lib.repeatL,rep_spc d,spc_succ]
  rfl
theorem alone_small{u:api_Unit}(h:smallU u):smT {u with Id:=zapi_Id,Kids:=[]}∧valT {u with Id:=zapi_Id,Kids:=[]}=aloB u:=by
 have hd:desc {u with Id:=zapi_Id,Kids:=[]}= [{u with Id:=zapi_Id,Kids:=[]}]:=by rw [desc_eq];rfl
 refine ⟨⟨by unfold cnt;rw [hd];simp,fun x hx=>?_⟩,?_⟩
 ·rw [hd] at hx
  rw [List.mem_singleton.1 hx]
  exact h
 ·unfold valT cnt
  rw [hd,dp_eq]
  simp [okU,kidB,aloB]
theorem may_p(u:api_Unit)(h:smallU u)(d:Int):To (fun n=>M.plaintext_may n u d) (okL u d):=by
 simp only [M.plaintext_may]
 unfold okL
 by_cases h0:0≤d
 ·by_cases h8:d≤8
  ·refine To.pos h0 (To.pos h8 ?_)
   obtain ⟨h1,h2⟩:=alone_small h
   refine To.bind (strip_ok _ h1) (To.bind (valid_p _ h1) (To.pure.of (h2.trans ?_)))
   simp [h0,h8]
  ·exact To.pos h0 (To.neg h8 (To.pure.of (by simp [h8])))
 ·exact To.neg h0 (To.pure.of (by simp [h0]))
theorem line_p(u:api_Unit)(h:smallU u)(d:Int):To (fun n=>M.plaintext_FormatLine n u d) (lineS u d):=by
 simp only [M.plaintext_FormatLine]
 refine To.bind (may_p u h d) ?_
 unfold lineS
 cases ho:okL u d with
 | false=>exact To.pos rfl To.pure
 | true=>
  unfold okL at ho
  simp only [Bool.and_eq_true,decide_eq_true_eq] at ho
  obtain ⟨⟨h0,h8⟩,ha⟩:=ho
  obtain ⟨k0,k7,hz,hl,hh,hw⟩:=alo_out ha
  obtain ⟨m,rfl⟩:∃ m:Nat,d=(m:Int):=⟨d.toNat,by omega⟩
  have hn:=name_len u.Kind
  have hsl:(spc m).length≤16:=by simp [spc];omega
  have hrep:Dec.repeatM [32,32] (m:Int)=some (spc m):=by
   unfold Dec.repeatM
   rw [if_pos (by simp;omega),Int.toNat_natCast,rep_spc]
  have hlb:(labS u).length≤8:=by
   unfold labS
   split
   ·simp
   ·rename_i hk
    have:=labB_len (hl hk)
    simp;omega
  have hhb:(headS u).length≤7000:=by
   unfold headS
   split
   ·simp
   ·have:=putS_len hh.2
    simp;omega
  refine To.neg (by simp) (To.bindS hrep (To.bindS (kname _) (To.bindS (catC_eq (by omega)) (To.bind (a:=spc m++nameOf u.Kind++labS u) ?_ (To.bind (a:=spc m++nameOf u.Kind++labS u++headS u) ?_ ?_)))))
  ·by_cases hk:u.Kind=0
   ·refine To.neg (by simpa using hk) (To.pure.of ?_)
    unfold labS;rw [if_pos hk];simp
   ·have:=labB_len (hl hk)
    refine To.pos hk (To.bindS (catC_eq (by simp;omega)) (To.bindS (catC_eq (by simp;omega)) (To.pure.of ?_)))
    unfold labS;rw [if_neg hk];simp
  ·by_cases hk:u.Head.length=0
   ·refine To.neg (by omega) (To.pure.of ?_)
    unfold headS;rw [if_pos hk];simp
   ·refine To.pos (by omega) (To.bindS (catC_eq (by simp;omega)) (To.bindS (put_ok u.Head _ hh.2 (by simp;omega)) (To.pure.of ?_)))
    unfold headS;rw [if_neg hk];simp
  ·rw [if_pos rfl,Int.toNat_natCast]
   by_cases hk:u.Words.length=0
   ·refine To.neg (by omega) (To.pure.of ?_)
    unfold bodyS wordS;rw [if_pos hk];simp
   ·refine To.pos (by omega) (To.bindS (catC_eq (by simp;omega)) (To.bindS (put_ok u.Words _ hw.2 (by simp;omega)) (To.pure.of ?_)))
    unfold bodyS wordS;rw [if_neg hk];simp
theorem line_loop(d:Nat)(hd:d≤8):∀ (k i:Nat) (s:Str),d-i=k→i≤d→s.length+2*k≤1000→To (fun n=>M.r11_Line_loop1 (d:Int) n s (i:Int)) (s++spc k):=by
 intro k
 induction k with
 | zero=>
  intro i s hk hi hs
  refine To.succ ?_
  simp only [M.r11_Line_loop1]
  exact To.neg (by omega) (To.pure.of (by simp [spc]))
 | succ k ih=>
  intro i s hk hi hs
  refine To.succ ?_
  simp only [M.r11_Line_loop1]
  refine To.pos (by omega) (To.bindS (catC_eq (by simp;omega)) (To.bindS (addC_succ (by omega)) ((ih (i+1) _ (by omega) (by omega) (by simp;omega)).of ?_)))
  rw [spc_succ];simp
theorem line_r(u:api_Unit)(h:smallU u)(d:Int):To (fun n=>M.r11_Line n u d) (lineS u d):=by
 simp only [M.r11_Line]
 have hpre:To (fun n=>if d<(0:Int) then some true else if (8:Int)< d then some true else Option.bind (M.r11_Alone n u) fun alone=>some (!alone)) (!okL u d):=by
  unfold okL
  by_cases h0:d<0
  ·exact To.pos h0 (To.pure.of (by have:¬ 0≤d:=(by omega);simp [this]))
  ·by_cases h8:8<d
   ·exact To.neg h0 (To.pos h8 (To.pure.of (by have:¬ d≤8:=(by omega);simp [this])))
   ·refine To.neg h0 (To.neg h8 (To.bind (alone_r u h) (To.pure.of ?_)))
    have k0:0≤d:=by omega
    have k8:d≤8:=by omega
    simp [k0,k8]
 refine To.bind hpre ?_
 unfold lineS
 cases ho:okL u d with
 | false=>exact To.pos rfl To.pure
 | true=>
  unfold okL at ho
  simp only [Bool.and_eq_true,decide_eq_true_eq] at ho
  obtain ⟨⟨h0,h8⟩,ha⟩:=ho
  obtain ⟨k0,k7,hz,hl,hh,hw⟩:=alo_out ha
  obtain ⟨m,rfl⟩:∃ m:Nat,d=(m:Int):=⟨d.toNat,by omega⟩
  have hn:=name_len u.Kind
  have hsl:(spc m).length≤16:=by simp [spc];omega
  have hlb:(labS u).length≤8:=by
   unfold labS
   split
   ·simp
   ·rename_i hk
    have:=labB_len (hl hk)
    simp;omega
  have hhb:(headS u).length≤7000:=by
   unfold headS
   split
   ·simp
   ·have:=putS_len hh.2
    simp;omega
  have hni:idx nm u.Kind=some (nameOf u.Kind):=by
   obtain ⟨x,hx,_⟩:=idx_some (l:=nm) (i:=u.Kind) k0 (by simp [nm];omega)
   unfold nameOf;rw [hx];rfl
  have hll:=line_loop m (by omega) m 0 [] (by omega) (Nat.zero_le _) (by simp;omega)
  rw [List.nil_append] at hll
  refine To.neg (by simp) (To.bind hll (To.bindS (a:=nm) rfl (To.bindS hni (To.bindS (catC_eq (by omega)) (To.bind (a:=spc m++nameOf u.Kind++labS u) ?_ (To.bind (a:=spc m++nameOf u.Kind++labS u++headS u) ?_ ?_))))))
  ·by_cases hk:u.Kind=0
   ·refine To.neg (by simpa using hk) (To.pure.of ?_)
    unfold labS;rw [if_pos hk];simp
   ·have:=labB_len (hl hk)
    refine To.pos hk (To.bindS (catC_eq (by simp;omega)) (To.bindS (catC_eq (by simp;omega)) (To.pure.of ?_)))
    unfold labS;rw [if_neg hk];simp
  ·by_cases hk:u.Head.length=0
   ·refine To.neg (by omega) (To.pure.of ?_)
    unfold headS;rw [if_pos hk];simp
   ·have hp:=putS_len hh.2
    refine To.pos (by omega) (To.bindS (catC_eq (by simp;omega)) (To.bind (words_r u.Head hh.2 hh.1) (To.bindS (catC_eq (by simp;omega)) (To.pure.of ?_))))
    unfold headS;rw [if_neg hk];simp
  ·rw [if_pos rfl,Int.toNat_natCast]
   by_cases hk:u.Words.length=0
   ·refine To.neg (by omega) (To.pure.of ?_)
    unfold bodyS wordS;rw [if_pos hk];simp
   ·have hp:=putS_len hw.2
    refine To.pos (by omega) (To.bindS (catC_eq (by simp;omega)) (To.bind (words_r u.Words hw.2 hw.1) (To.bindS (catC_eq (by simp;omega)) (To.pure.of ?_))))
    unfold bodyS wordS;rw [if_neg hk];simp
def pre(u:api_Unit)(d:Nat):List (api_Unit×Nat):=(u,d) :: u.Kids.attach.flatMap (fun k=>pre k.1 (d+1))
termination_by SizeOf.sizeOf u
decreasing_by exact kid_lt k.2
theorem pre_eq(u:api_Unit)(d:Nat):pre u d=(u,d) :: u.Kids.flatMap (fun k=>pre k (d+1)):=by
 rw [pre,List.flatMap_def,List.flatMap_def,map_at (fun k=>pre k (d+1))]
def lns(l:List (api_Unit×Nat)):List Str:=l.map fun p=>lineS p.1 (p.2:Int)
def linesT(u:api_Unit)(d:Nat):List Str:=lns (pre u d)
def textN(l:List Str):Str:=l.flatMap fun s=>s++ [10]
theorem pre_desc(u:api_Unit):∀ d,(pre u d).map Prod.fst=desc u:=by
 refine uind (P:=fun u=>∀ d,(pre u d).map Prod.fst=desc u) ?_ u
 intro u ih d
 rw [pre_eq,desc_eq,List.map_cons,List.map_flatMap]
 congr 1
 rw [List.flatMap_def,List.flatMap_def]
 congr 1
 exact List.map_congr_left fun k hk=>ih k hk (d+1)
theorem pre_len(u:api_Unit)(d:Nat):(pre u d).length=cnt u:=by unfold cnt;rw [←pre_desc u d,List.length_map]
theorem line_len(u:api_Unit)(d:Int):(lineS u d).length≤20016:=by
 unfold lineS
 split
 ·rename_i h
  unfold okL at h
  simp only [Bool.and_eq_true,decide_eq_true_eq] at h
  have:=body_len h.2
  simp [spc];omega
 ·simp
theorem lines_loop(u:api_Unit):smT u→∀ (d:Nat) (c:List Str),d+dp u≤1000000→c.length+cnt u≤100000000→To (fun n=>M.plaintext_Lines_1 n u (d:Int) c) (c++linesT u d):=by
 refine uind (P:=fun u=>smT u→∀ (d:Nat) (c:List Str),d+dp u≤1000000→c.length+cnt u≤100000000→To (fun n=>M.plaintext_Lines_1 n u (d:Int) c) (c++linesT u d)) ?_ u
 intro u ih h d c hd hc
 rw [cnt_eq] at hc
 have loop:∀ (l:List api_Unit) (slf:Nat→api_Unit→Int→List Str→Option (List Str)) (c:List Str),d+1≤1000001→(∀ k∈l,∀ c:List Str,c.length+cnt k≤100000000→To (fun n=>slf n k ((d+1:Nat):Int) c) (c++linesT k (d+1)))→c.length+(l.map cnt).sum≤100000000→To (fun n=>M.plaintext_Lines_1_loop1 (d:Int) (slf n) l c) (c++lns (l.flatMap fun k=>pre k (d+1))):=by
  intro l
  induction l with
  | nil=>intro slf c _ _ _;simp only [M.plaintext_Lines_1_loop1];exact To.pure.of (by simp [lns])
  | cons x l ihl=>
   intro slf c hd1 hs hc
   simp only [List.map_cons,List.sum_cons] at hc
   simp only [M.plaintext_Lines_1_loop1]
   refine To.bindS (addC_succ (by omega)) (To.bind (hs x (by simp) c (by omega)) ?_)
   refine (ihl slf _ hd1 (fun k hk=>hs k (by simp [hk])) ?_).of ?_
   ·simp only [List.length_append,linesT,lns,List.length_map,pre_len];omega
   ·simp [linesT,lns]
 refine To.succ ?_
 simp only [M.plaintext_Lines_1]
 refine To.bind (line_p u (smT_self h) d) (To.bindS (appC_eq (by simp;omega)) (To.bind (loop u.Kids (fun n=>M.plaintext_Lines_1 n) _ (by omega) (fun k hk c hc=>ih k hk (smT_kid h hk) (d+1) c (by have:=(dp_le u (dp u)).1 (Nat.le_refl _) k hk;omega) hc) (by simp;omega)) (To.pure.of ?_)))
 unfold linesT
 rw [pre_eq];simp [lns]
theorem lines_p(u:api_Unit)(h:smT u):To (fun n=>M.plaintext_Lines n u) (if valT u=true then linesT u 0 else []):=by
 simp only [M.plaintext_Lines]
 refine To.bind (strip_ok u h) (To.bind (valid_p u h) ?_)
 cases hv:valT u with
 | false=>exact To.pos rfl (To.pure.of (by simp))
 | true=>
  have hd:dp u≤8:=by
   unfold valT at hv
   simp only [Bool.and_eq_true,decide_eq_true_eq] at hv
   exact hv.1.2
  refine To.neg (by simp) (To.bind (lines_loop u h 0 [] (by omega) (by have:=h.1;simp;omega)) (To.pure.of (by simp)))
theorem rlines_ok(u:api_Unit):smT u→∀ d:Nat,d+dp u≤1000000→To (fun n=>M.r11_lines n u (d:Int)) (linesT u d):=by
 refine uind (P:=fun u=>smT u→∀ d:Nat,d+dp u≤1000000→To (fun n=>M.r11_lines n u (d:Int)) (linesT u d)) ?_ u
 intro u ih h d hd
 have loop:∀ (xs:List api_Unit) (i:Nat) (slf:Nat→api_Unit→Int→Option (List Str)) (c:List Str),u.Kids.drop i=xs→d≤1000000→(∀ k∈xs,To (fun n=>slf n k ((d+1:Nat):Int)) (linesT k (d+1)))→c.length+(xs.map cnt).sum≤100000000→
   To (fun n=>M.r11_lines_loop1 u (d:Int) (slf n) n c (i:Int)) (c++lns (xs.flatMap fun k=>pre k (d+1))):=by
  intro xs
  induction xs with
  | nil=>
   intro i slf c hx _ _ _
   refine To.succ ?_
   simp only [M.r11_lines_loop1]
   exact To.neg (drop_end hx) (To.pure.of (by simp [lns]))
  | cons x xs ihl=>
   intro i slf c hx hd1 hs hc
   simp only [List.map_cons,List.sum_cons] at hc
   have hlx:(linesT x (d+1)).length=cnt x:=by simp only [linesT,lns,List.length_map,pre_len]
   refine To.succ ?_
   simp only [M.r11_lines_loop1]
   refine To.pos (drop_lt hx) (To.bindS (drop_idx hx) (To.bindS (addC_succ (by omega)) (To.bind (hs x (by simp)).shift (To.bindS (appC_eq (by rw [hlx];omega)) ?_))))
   rw [cast_succ i]
   refine (ihl (i+1) (fun n=>slf (n+1)) _ (drop_next hx) hd1 (fun k hk=>(hs k (by simp [hk])).shift) (by rw [List.length_append,hlx];omega)).of ?_
   simp [linesT,lns]
 have hc:=h.1
 rw [cnt_eq] at hc
 refine To.succ ?_
 simp only [M.r11_lines]
 refine To.bind (line_r u (smT_self h) d) (To.bind (loop u.Kids 0 (fun n=>M.r11_lines n) _ rfl (by omega) (fun k hk=>ih k hk (smT_kid h hk) (d+1) (by have:=(dp_le u (dp u)).1 (Nat.le_refl _) k hk;omega)) (by simp;omega)) (To.pure.of ?_))
 unfold linesT
 rw [pre_eq];simp [lns]
theorem rLines_ok(u:api_Unit)(h:smT u)(hc:cnt u≤1000000):To (fun n=>M.r11_Lines n u) (if valT u=true then linesT u 0 else []):=by
 simp only [M.r11_Lines]
 refine To.bind (valid_r u h hc) ?_
 cases hv:valT u with
 | false=>exact To.pos rfl (To.pure.of (by simp))
 | true=>
  have hd:dp u≤8:=by
   unfold valT at hv
   simp only [Bool.and_eq_true,decide_eq_true_eq] at hv
   exact hv.1.2
  exact To.neg (by simp) (To.bind (rlines_ok u h 0 (by omega)) (To.pure.of (by simp)))
theorem joinN_text:∀ (l:List Str) (x:Str),joinN (x :: l)++ [10]=textN (x :: l)
 | [],x=>by simp [joinN,tailN,textN]
 | y :: l,x=>by
  have ih:=joinN_text l y
  have e1:joinN (x :: y :: l)=x++10 :: joinN (y :: l):=by simp [joinN,tailN]
  have e2:textN (x :: y :: l)=x++10 :: textN (y :: l):=by simp [textN]
  rw [e1,e2,←ih];simp
theorem total_lns(l:List (api_Unit×Nat)):total (lns l)≤20017*l.length:=by
 induction l with
 | nil=>simp [total,lns]
 | cons p l ih=>
  have h1:=line_len p.1 (p.2:Int)
  have e:total (lns (p :: l))=(lineS p.1 (p.2:Int)).length+1+total (lns l):=by simp [total,lns]
  rw [e]
  simp only [List.length_cons]
  omega
theorem textN_len(l:List Str):(textN l).length=total l:=by
 induction l with
 | nil=>rfl
 | cons x l ih=>
  have e:textN (x :: l)=x++10 :: textN l:=by simp [textN]
  rw [e]
  simp only [List.length_append,List.length_cons,ih]
  simp [total];omega
def fmtT(u:api_Unit):Str×Int:=if valT u=true then (if 16384<(textN (linesT u 0)).length then ([],6) else (textN (linesT u 0),0)) else ([],1)
theorem val_cnt{u:api_Unit}(h:valT u=true):cnt u≤1024∧dp u≤8∧ ∀ x∈desc u,okU x=true:=by
 unfold valT at h
 simp only [Bool.and_eq_true,decide_eq_true_eq,List.all_eq_true] at h
 exact ⟨h.2,h.1.2,h.1.1⟩
theorem format_p(u:api_Unit)(h:smT u):To (fun n=>M.plaintext_Format n u) (fmtT u):=by
 simp only [M.plaintext_Format]
 refine To.bind (lines_p u h) ?_
 unfold fmtT
 by_cases hv:valT u=true
 ·rw [if_pos hv,if_pos hv]
  have hc:=val_cnt hv
  have ht:=total_lns (pre u 0)
  rw [pre_len] at ht
  obtain ⟨x,l,hl⟩:∃ x l,linesT u 0=x :: l:=by
   unfold linesT;rw [pre_eq];exact ⟨_,_,rfl⟩
  have ht':total (linesT u 0)≤20017*1024:=Nat.le_trans ht (Nat.mul_le_mul_left _ hc.1)
  have hj:=join_okN (linesT u 0) (by omega)
  refine To.neg (by rw [hl];simp;omega) (To.bindS hj ?_)
  have htl:=textN_len (linesT u 0)
  have he:joinN (linesT u 0)++ [10]=textN (linesT u 0):=by rw [hl];exact joinN_text l x
  have hel:(joinN (linesT u 0)).length+1=(textN (linesT u 0)).length:=by rw [←he];simp
  refine To.bindS (catC_eq (by simp;omega)) ?_
  rw [he]
  by_cases hb:16384<(textN (linesT u 0)).length
  ·rw [if_pos hb]
   exact To.pos (by omega) To.pure
  ·rw [if_neg hb]
   exact To.neg (by omega) To.pure
 ·rw [if_neg hv,if_neg hv]
  exact To.pos (by simp) To.pure
theorem text_r(u:api_Unit)(h:smT u)(hc:cnt u≤1000000):To (fun n=>M.r11_Text n u) (fmtT u):=by
 have loop:∀ (l:List Str),total l≤100000000→∀ (xs:List Str) (i:Nat) (s:Str),l.drop i=xs→s.length+total xs≤100000000→To (fun n=>M.r11_Text_loop1 l n s (i:Int)) (s++textN xs):=by
  intro l hl xs
  induction xs with
  | nil=>
   intro i s hx _
   refine To.succ ?_
   simp only [M.r11_Text_loop1]
   exact To.neg (drop_end hx) (To.pure.of (by simp [textN]))
  | cons x xs ih=>
   intro i s hx hs
   have ht:total (x :: xs)=x.length+1+total xs:=by simp [total]
   rw [ht] at hs
   refine To.succ ?_
   simp only [M.r11_Text_loop1]
   refine To.pos (drop_lt hx) (To.bindS (drop_idx hx) (To.bindS (catC_eq (by omega)) (To.bindS (catC_eq (by simp;omega)) ?_)))
   rw [cast_succ]
   exact (ih (i+1) _ (drop_next hx) (by simp;omega)).of (by simp [textN])
 simp only [M.r11_Text]
 refine To.bind (valid_r u h hc) ?_
 unfold fmtT
 by_cases hv:valT u=true
 ·rw [if_pos hv]
  have hc2:=val_cnt hv
  have ht:=total_lns (pre u 0)
  rw [pre_len] at ht
  have ht':total (linesT u 0)≤20017*1024:=Nat.le_trans ht (Nat.mul_le_mul_left _ hc2.1)
  have hL:=rLines_ok u h hc
  rw [if_pos hv] at hL
  refine To.neg (by simp [hv]) (To.bind hL (To.bind (loop (linesT u 0) (by omega) (linesT u 0) 0 [] rfl (by simp;omega)) ?_))
  rw [List.nil_append]
  by_cases hb:16384<(textN (linesT u 0)).length
  ·rw [if_pos hb]
   exact To.pos (by omega) To.pure
  ·rw [if_neg hb]
   exact To.neg (by omega) To.pure
 ·rw [if_neg hv]
  exact To.pos (by simpa using hv) To.pure
theorem pformat_true(u:api_Unit)(hb:big u):∃ n,M.law11_PlaintextFormat n u=some true:=by
 refine To.ex ?_
 simp only [M.law11_PlaintextFormat]
 obtain ⟨f,hf,hfl⟩:=few11 u hb
 cases f with
 | false=>exact To.bind (a:=true) (To.bind awake11 (To.neg (by simp) (To.bind hf (To.pure.of rfl)))) (To.pos rfl (To.bind awake11 To.pure))
 | true=>
  obtain ⟨h1,h2⟩:=hfl rfl
  refine To.bind (a:=false) (To.bind awake11 (To.neg (by simp) (To.bind hf (To.pure.of rfl)))) (To.neg (by simp) ?_)
  exact To.bind (format_p u h1) (To.bind (text_r u h1 (by omega)) (To.pos (by simp) (To.pure.of (by simp))))
end Go.Proofs.YtofaogkcifaioaaGreatDoor
/-
  Chapter 11: what a line describes, by both texts.
-/
set_option linter.unusedVariables false
set_option linter.unusedSimpArgs false
namespace Go.Proofs.YtofaogkcifaioaaGreatDoor
open Go Go.Dec
def sp(b:UInt8):Bool:=b==32
def mkW(t:Str):api_Word:=⟨t,zapi_Mark⟩
def mkU(k:Int)(l:Str)(h w:List Str):api_Unit:=⟨zapi_Id,k,l,h.map mkW,w.map mkW,[]⟩
def unesc:Str→Str
 | []=>[]
 | c :: r=>if c=92 then r else c :: r
theorem unesc_cons(c:UInt8)(r:Str):unesc (c :: r)=if c=92 then r else c :: r:=rfl
def unesc2(t:Str):Str:=if 1<t.length then unesc t else t
def cutC(a:Str):Str×Bool:=if a.getLast? =some 58 then (a.dropLast,true) else (a,false)
def isBar(t:Str):Bool:=t== [124]
def upto(l:List Str):List Str:=l.takeWhile fun t=>!isBar t
def from1(l:List Str):List Str:=l.dropWhile fun t=>!isBar t
def candP:List Str→Option api_Unit
 | []=>none
 | x :: l=>match kd x with
  | none=>none
  | some k=>if k=0 then some (mkU 0 [] [] []) else match l with
   | []=>some (mkU k [] [] [])
   | a :: ws=>some (mkU k (cutC a).1 (if (cutC a).2=true then (upto ws).map unesc else []) (((from1 ws).drop 1).map unesc))
def wordR(k:Int)(lab:Str)(h:List Str)(rest:List Str):Option api_Unit:=match rest with
 | []=>some (mkU k lab h [])
 | b :: ws=>if isBar b=true then (if from1 ws= [] then some (mkU k lab h ((upto ws).map unesc2)) else none) else none
def candR:List Str→Option api_Unit
 | []=>none
 | x :: l=>match kd x with
  | none=>none
  | some k=>if k=0 then wordR 0 [] [] l else match l with
   | []=>none
   | a :: ws=>if (cutC a).2=true then wordR k (cutC a).1 ((upto ws).map unesc2) (from1 ws) else wordR k (cutC a).1 [] ws
theorem candP_none{x:Str}{l:List Str}(h:kd x=none):candP (x :: l)=none:=by
 show (match kd x with | none=>none | some k=>_)=_
 rw [h]
theorem candP_some{x:Str}{l:List Str}{k:Int}(h:kd x=some k):candP (x :: l)=if k=0 then some (mkU 0 [] [] []) else match l with
   | []=>some (mkU k [] [] [])
   | a :: ws=>some (mkU k (cutC a).1 (if (cutC a).2=true then (upto ws).map unesc else []) (((from1 ws).drop 1).map unesc)):=by
 show (match kd x with | none=>none | some k=>_)=_
 rw [h]
theorem candR_none{x:Str}{l:List Str}(h:kd x=none):candR (x :: l)=none:=by
 show (match kd x with | none=>none | some k=>_)=_
 rw [h]
theorem candR_some{x:Str}{l:List Str}{k:Int}(h:kd x=some k):candR (x :: l)=if k=0 then wordR 0 [] [] l else match l with
   | []=>none
   | a :: ws=>if (cutC a).2=true then wordR k (cutC a).1 ((upto ws).map unesc2) (from1 ws) else wordR k (cutC a).1 [] ws:=by
 show (match kd x with | none=>none | some k=>_)=_
 rw [h]
def toks(u:api_Unit):List Str:=
 if u.Kind=0 then [nameOf u.Kind]
 else nameOf u.Kind :: (u.Label++(if u.Head.length=0 then [] else [58])) :: ((txts u.Head).map esc++(if u.Words.length=0 then [] else [124] :: (txts u.Words).map esc))
theorem body_join{u:api_Unit}(h:aloB u=true):bodyS u=joinS (toks u):=by
 obtain ⟨_,_,hz,_⟩:=alo_out h
 unfold bodyS toks
 by_cases hk:u.Kind=0
 ·obtain ⟨h1,h2,h3⟩:=hz hk
  rw [if_pos hk]
  unfold labS headS wordS
  rw [if_pos hk,h2,h3]
  simp [joinS,tailS]
 ·rw [if_neg hk]
  unfold labS headS wordS putS
  rw [if_neg hk]
  show _=nameOf u.Kind++tailS _
  rw [tails_cons,tailS_append]
  by_cases hh:u.Head.length=0
  ·have hh':=List.eq_nil_of_length_eq_zero hh
   rw [if_pos hh,if_pos hh,hh']
   by_cases hw:u.Words.length=0
   ·rw [if_pos hw,if_pos hw];simp [tailS,txts]
   ·rw [if_neg hw,if_neg hw,tails_cons];simp [tailS,txts]
  ·rw [if_neg hh,if_neg hh]
   by_cases hw:u.Words.length=0
   ·rw [if_pos hw,if_pos hw];simp [tailS]
   ·rw [if_neg hw,if_neg hw,tails_cons];simp
theorem esc_no{t:Str}(h:wordB t=true):(32:UInt8) ∉ esc t:=by
 have hn:=word_no h
 cases t with
 | nil=>simp [esc]
 | cons c r=>
  rw [esc_cons]
  split
  ·simp only [List.mem_cons,not_or] at hn ⊢
   exact ⟨by decide,hn.1,hn.2⟩
  ·exact hn
theorem toks_no{u:api_Unit}(h:aloB u=true):∀ t∈toks u,(32:UInt8) ∉ t:=by
 obtain ⟨k0,k7,hz,hl,hh,hw⟩:=alo_out h
 have hn:=(name_no k0 k7).1
 intro t ht
 unfold toks at ht
 split at ht
 ·rw [List.mem_singleton.1 ht];exact hn
 ·rename_i hk
  rcases List.mem_cons.1 ht with rfl | ht
  ·exact hn
  rcases List.mem_cons.1 ht with rfl | ht
  ·have h1:=lab_no (hl hk)
   intro hm
   rcases List.mem_append.1 hm with hm | hm
   ·exact h1 hm
   ·split at hm
    ·cases hm
    ·simp at hm
  rcases List.mem_append.1 ht with ht | ht
  ·obtain ⟨x,hx,rfl⟩:=List.mem_map.1 ht
   obtain ⟨w,hw1,rfl⟩:=List.mem_map.1 hx
   exact esc_no (hh.2 w hw1)
  ·split at ht
   ·cases ht
   ·rcases List.mem_cons.1 ht with rfl | ht
    ·decide
    ·obtain ⟨x,hx,rfl⟩:=List.mem_map.1 ht
     obtain ⟨w,hw1,rfl⟩:=List.mem_map.1 hx
     exact esc_no (hw.2 w hw1)
theorem split_body{u:api_Unit}(h:aloB u=true):splitC 32 (bodyS u)=toks u:=by
 rw [body_join h]
 have hno:=toks_no h
 obtain ⟨x,xs,hx⟩:∃ x xs,toks u=x :: xs:=by unfold toks;split<;> exact ⟨_,_,rfl⟩
 rw [hx] at hno ⊢
 exact split_tail xs (fun y hy=>hno y (by simp [hy])) x (hno x (by simp))
theorem drop_spc(d:Nat)(s:Str):(spc d++s).dropWhile sp=s.dropWhile sp:=by
 induction d with
 | zero=>rfl
 | succ d ih=>
  rw [spc_succ]
  simp only [List.cons_append]
  rw [List.dropWhile_cons_of_pos (by decide),List.dropWhile_cons_of_pos (by decide),ih]
theorem body_head{u:api_Unit}(h:aloB u=true):(bodyS u).dropWhile sp=bodyS u∧bodyS u≠ []:=by
 obtain ⟨k0,k7,_⟩:=alo_out h
 obtain ⟨h1,h2⟩:=name_no k0 k7
 unfold bodyS
 cases hn:nameOf u.Kind with
 | nil=>exact absurd hn h2
 | cons c r=>
  rw [hn] at h1
  refine ⟨?_,by simp⟩
  rw [List.cons_append,List.dropWhile_cons_of_neg]
  simp only [List.mem_cons,not_or] at h1
  unfold sp
  simp
  exact fun e=>h1.1 e.symm
theorem line_parts{u:api_Unit}{d:Nat}(h:okL u d=true):(lineS u d).dropWhile sp=bodyS u∧(lineS u d).length=2*d+(bodyS u).length:=by
 have ha:aloB u=true:=by
  unfold okL at h
  simp only [Bool.and_eq_true] at h
  exact h.2
 unfold lineS
 rw [if_pos h,Int.toNat_natCast]
 exact ⟨by rw [drop_spc];exact (body_head ha).1,by simp [spc]⟩
theorem unesc_esc{t:Str}(h:wordB t=true):unesc (esc t)=t:=by
 have h1:=wordB_len h
 cases t with
 | nil=>simp at h1
 | cons c r=>
  rw [esc_cons]
  split
  ·simp [unesc]
  ·rename_i hc
   rw [unesc_cons,if_neg]
   rintro rfl
   exact hc (.inr rfl)
theorem unesc2_esc{t:Str}(h:wordB t=true):unesc2 (esc t)=t:=by
 unfold unesc2
 split
 ·exact unesc_esc h
 ·rename_i hl
  have h1:=wordB_len h
  cases t with
  | nil=>simp at h1
  | cons c r=>
   rw [esc_cons] at hl ⊢
   split
   ·rename_i hc
    rw [if_pos hc] at hl
    simp at hl
   ·rfl
theorem esc_bar{t:Str}(h:wordB t=true):isBar (esc t)=false:=by
 have h1:=wordB_len h
 cases t with
 | nil=>simp at h1
 | cons c r=>
  rw [esc_cons]
  unfold isBar
  split
  ·simp
  ·rename_i hc
   have:¬ c=124:=fun e=>hc (.inl (by rw [e];rfl))
   simp [this]
theorem upto_esc{l:List api_Word}(h:∀ w∈l,wordB w.Text=true)(r:List Str):upto ((txts l).map esc++r)=(txts l).map esc++upto r∧from1 ((txts l).map esc++r)=from1 r:=by
 induction l with
 | nil=>exact ⟨rfl,rfl⟩
 | cons w l ih=>
  obtain ⟨h1,h2⟩:=ih (fun x hx=>h x (by simp [hx]))
  have hb:=esc_bar (h w (by simp))
  unfold upto from1 at *
  simp only [txts,List.map_cons,List.cons_append] at *
  rw [List.takeWhile_cons_of_pos (by simp [hb]),List.dropWhile_cons_of_pos (by simp [hb]),h1,h2]
  exact ⟨rfl,rfl⟩
theorem map_unesc{l:List api_Word}(h:∀ w∈l,wordB w.Text=true):((txts l).map esc).map unesc=txts l∧((txts l).map esc).map unesc2=txts l:=by
 induction l with
 | nil=>exact ⟨rfl,rfl⟩
 | cons w l ih=>
  obtain ⟨h1,h2⟩:=ih (fun x hx=>h x (by simp [hx]))
  have hw:=h w (by simp)
  simp only [txts,List.map_cons] at *
  rw [unesc_esc hw,unesc2_esc hw,h1,h2]
  exact ⟨rfl,rfl⟩
def bareU(u:api_Unit):Prop:=∃ k l h w,u=mkU k l h w
theorem txts_mk(l:List Str):txts (l.map mkW)=l:=by
 induction l with
 | nil=>rfl
 | cons x l ih=>rw [List.map_cons];unfold txts at *;rw [List.map_cons,ih];rfl
theorem lab_last{s:Str}(h:labB s=true):s.getLast? ≠some 58:=by
 intro hl
 have hm:(58:UInt8)∈s:=List.mem_of_getLast? hl
 unfold labB at h
 simp only [Bool.and_eq_true] at h
 rw [←List.take_append_drop (s.takeWhile isDig).length s] at hm
 rcases List.mem_append.1 hm with hm | hm
 ·have e:s.take (s.takeWhile isDig).length=s.takeWhile isDig:=by
   have:=List.takeWhile_append_dropWhile (p:=isDig) (l:=s)
   calc s.take (s.takeWhile isDig).length=(s.takeWhile isDig++s.dropWhile isDig).take (s.takeWhile isDig).length:=by rw [this]
    _=s.takeWhile isDig:=by rw [List.take_append_of_le_length (Nat.le_refl _),List.take_length]
  rw [e] at hm
  have:∀ (l:Str),(58:UInt8) ∉ l.takeWhile isDig:=by
   intro l
   induction l with
   | nil=>simp
   | cons x l ih=>
    rw [List.takeWhile_cons]
    split
    ·rename_i hx
     simp only [List.mem_cons,not_or]
     refine ⟨?_,ih⟩
     rintro rfl
     revert hx;decide
    ·simp
  exact this s hm
 ·have:=List.all_eq_true.1 h.2 _ hm
  revert this;decide
theorem cut_lab{s:Str}(h:labB s=true):cutC s=(s,false)∧cutC (s++ [58])=(s,true):=by
 unfold cutC
 refine ⟨by rw [if_neg (lab_last h)],?_⟩
 rw [if_pos (by simp)]
 simp
theorem bar_is:isBar [124]=true:=rfl
theorem candP_toks{u:api_Unit}(hb:bareU u)(h:aloB u=true):candP (toks u)=some u:=by
 obtain ⟨k,l,hd,wd,rfl⟩:=hb
 obtain ⟨k0,k7,hz,hl,hh,hw⟩:=alo_out h
 have hh2:∀ w∈hd.map mkW,wordB w.Text=true:=hh.2
 have hw2:∀ w∈wd.map mkW,wordB w.Text=true:=hw.2
 have hkd:kd (nameOf k)=some k:=kd_name k0 k7
 unfold toks
 by_cases hk:k=0
 ·obtain ⟨h1,h2,h3⟩:=hz hk
  have h1:l= []:=h1
  have h2:hd= []:=List.map_eq_nil_iff.1 h2
  have h3:wd= []:=List.map_eq_nil_iff.1 h3
  rw [if_pos (show (mkU k l hd wd).Kind=0 from hk)]
  show candP [nameOf k]=_
  rw [candP_some hkd,if_pos hk,h1,h2,h3,hk]
 ·have hlb:labB l=true:=hl hk
  rw [if_neg (show ¬ (mkU k l hd wd).Kind=0 from hk)]
  show candP (nameOf k :: (l++(if (hd.map mkW).length=0 then [] else [58])) :: ((txts (hd.map mkW)).map esc++(if (wd.map mkW).length=0 then [] else [124] :: (txts (wd.map mkW)).map esc)))=_
  have hwpart:((from1 (if (wd.map mkW).length=0 then [] else [124] :: (txts (wd.map mkW)).map esc)).drop 1).map unesc=wd:=by
   by_cases hwl:(wd.map mkW).length=0
   ·rw [if_pos hwl]
    have:wd= []:=by simpa using hwl
    rw [this];rfl
   ·rw [if_neg hwl]
    unfold from1
    rw [List.dropWhile_cons_of_neg (by rw [bar_is];decide)]
    rw [List.drop_one,List.tail_cons,(map_unesc hw2).1,txts_mk]
  have hupart:upto (if (wd.map mkW).length=0 then ([]:List Str) else [124] :: (txts (wd.map mkW)).map esc)= []:=by
   by_cases hwl:(wd.map mkW).length=0
   ·rw [if_pos hwl];rfl
   ·rw [if_neg hwl]
    unfold upto
    rw [List.takeWhile_cons_of_neg (by rw [bar_is];decide)]
  obtain ⟨u1,u2⟩:=upto_esc hh2 (if (wd.map mkW).length=0 then ([]:List Str) else [124] :: (txts (wd.map mkW)).map esc)
  rw [candP_some hkd,if_neg hk]
  show some (mkU _ _ _ _)=_
  rw [u1,u2,hwpart,hupart,List.append_nil,(map_unesc hh2).1,txts_mk]
  by_cases hhl:(hd.map mkW).length=0
  ·rw [if_pos hhl,List.append_nil,(cut_lab hlb).1]
   have:hd= []:=by simpa using hhl
   rw [this];rfl
  ·rw [if_neg hhl,(cut_lab hlb).2]
   rfl
theorem candR_toks{u:api_Unit}(hb:bareU u)(h:aloB u=true):candR (toks u)=some u:=by
 obtain ⟨k,l,hd,wd,rfl⟩:=hb
 obtain ⟨k0,k7,hz,hl,hh,hw⟩:=alo_out h
 have hh2:∀ w∈hd.map mkW,wordB w.Text=true:=hh.2
 have hw2:∀ w∈wd.map mkW,wordB w.Text=true:=hw.2
 have hkd:kd (nameOf k)=some k:=kd_name k0 k7
 unfold toks
 by_cases hk:k=0
 ·obtain ⟨h1,h2,h3⟩:=hz hk
  have h1:l= []:=h1
  have h2:hd= []:=List.map_eq_nil_iff.1 h2
  have h3:wd= []:=List.map_eq_nil_iff.1 h3
  rw [if_pos (show (mkU k l hd wd).Kind=0 from hk)]
  show candR [nameOf k]=_
  rw [candR_some hkd,if_pos hk,h1,h2,h3,hk]
  rfl
 ·have hlb:labB l=true:=hl hk
  rw [if_neg (show ¬ (mkU k l hd wd).Kind=0 from hk)]
  show candR (nameOf k :: (l++(if (hd.map mkW).length=0 then [] else [58])) :: ((txts (hd.map mkW)).map esc++(if (wd.map mkW).length=0 then [] else [124] :: (txts (wd.map mkW)).map esc)))=_
  have hwr:∀ h',wordR k l h' (if (wd.map mkW).length=0 then [] else [124] :: (txts (wd.map mkW)).map esc)=some (mkU k l h' wd):=by
   intro h'
   by_cases hwl:(wd.map mkW).length=0
   ·rw [if_pos hwl]
    have:wd= []:=by simpa using hwl
    rw [this];rfl
   ·rw [if_neg hwl]
    obtain ⟨q1,q2⟩:=upto_esc hw2 []
    rw [List.append_nil] at q1 q2
    unfold wordR
    simp only
    rw [if_pos bar_is,if_pos (by rw [q2];rfl),q1]
    have:upto ([]:List Str)= []:=rfl
    rw [this,List.append_nil,(map_unesc hw2).2,txts_mk]
  have hfrom:from1 (if (wd.map mkW).length=0 then ([]:List Str) else [124] :: (txts (wd.map mkW)).map esc)=(if (wd.map mkW).length=0 then ([]:List Str) else [124] :: (txts (wd.map mkW)).map esc):=by
   by_cases hwl:(wd.map mkW).length=0
   ·rw [if_pos hwl];rfl
   ·rw [if_neg hwl]
    unfold from1
    rw [List.dropWhile_cons_of_neg (by rw [bar_is];decide)]
  have hupart:upto (if (wd.map mkW).length=0 then ([]:List Str) else [124] :: (txts (wd.map mkW)).map esc)= []:=by
   by_cases hwl:(wd.map mkW).length=0
   ·rw [if_pos hwl];rfl
   ·rw [if_neg hwl]
    unfold upto
    rw [List.takeWhile_cons_of_neg (by rw [bar_is];decide)]
  obtain ⟨u1,u2⟩:=upto_esc hh2 (if (wd.map mkW).length=0 then ([]:List Str) else [124] :: (txts (wd.map mkW)).map esc)
  rw [candR_some hkd,if_neg hk]
  show (if _ then _ else _)=_
  by_cases hhl:(hd.map mkW).length=0
  ·have hd0:hd= []:=by simpa using hhl
   rw [if_pos hhl,List.append_nil,(cut_lab hlb).1]
   simp only [Bool.false_eq_true,if_false]
   have:(txts (hd.map mkW)).map esc= []:=by rw [hd0];rfl
   rw [this,List.nil_append,hwr,hd0]
  ·rw [if_neg hhl,(cut_lab hlb).2]
   simp only [if_true]
   rw [u1,u2,hupart,List.append_nil,hfrom,(map_unesc hh2).2,txts_mk,hwr]
def depS(s:Str):Nat:=(s.length-(s.dropWhile sp).length) / 2
def rdL(s:Str):Option (api_Unit×Nat):=match candP (splitC 32 (s.dropWhile sp)) with
 | none=>none
 | some u=>if lineS u (depS s:Int)=s then some (u,depS s) else none
def isL(s:Str)(u:api_Unit)(d:Nat):Prop:=bareU u∧okL u (d:Int)=true∧lineS u (d:Int)=s
theorem isL_parts{s:Str}{u:api_Unit}{d:Nat}(h:isL s u d):splitC 32 (s.dropWhile sp)=toks u∧depS s=d∧s≠ []∧aloB u=true:=by
 obtain ⟨hb,ho,rfl⟩:=h
 have ha:aloB u=true:=by
  unfold okL at ho
  simp only [Bool.and_eq_true] at ho
  exact ho.2
 obtain ⟨h1,h2⟩:=line_parts ho
 refine ⟨by rw [h1,split_body ha],?_,?_,ha⟩
 ·unfold depS
  rw [h1,h2];omega
 ·intro e
  have h3:=(body_head ha).2
  have:=congrArg List.length e
  rw [h2] at this
  simp only [List.length_nil] at this
  exact h3 (List.eq_nil_of_length_eq_zero (by omega))
theorem candP_bare{l:List Str}{u:api_Unit}(h:candP l=some u):bareU u:=by
 unfold candP at h
 split at h
 ·cases h
 ·split at h
  ·cases h
  ·split at h
   ·cases h;exact ⟨_,_,_,_,rfl⟩
   ·split at h
    ·cases h;exact ⟨_,_,_,_,rfl⟩
    ·cases h;exact ⟨_,_,_,_,rfl⟩
theorem wordR_bare{k:Int}{lab:Str}{h r:List Str}{u:api_Unit}(e:wordR k lab h r=some u):bareU u:=by
 unfold wordR at e
 split at e
 ·cases e;exact ⟨_,_,_,_,rfl⟩
 ·split at e
  ·split at e
   ·cases e;exact ⟨_,_,_,_,rfl⟩
   ·cases e
  ·cases e
theorem candR_bare{l:List Str}{u:api_Unit}(h:candR l=some u):bareU u:=by
 unfold candR at h
 split at h
 ·cases h
 ·split at h
  ·cases h
  ·split at h
   ·exact wordR_bare h
   ·split at h
    ·cases h
    ·split at h
     ·exact wordR_bare h
     ·exact wordR_bare h
theorem line_ok{u:api_Unit}{d:Int}(h:lineS u d≠ []):okL u d=true:=by
 unfold lineS at h
 split at h
 ·assumption
 ·exact absurd rfl h
theorem rdL_nil:rdL []=none:=by
 have:candP (splitC 32 (([]:Str).dropWhile sp))=none:=by
  exact candP_none (x:=[]) rfl
 unfold rdL
 rw [this]
theorem rdL_some{s:Str}{u:api_Unit}{d:Nat}(h:rdL s=some (u,d)):isL s u d:=by
 have hs:s≠ []:=by
  rintro rfl
  rw [rdL_nil] at h;cases h
 unfold rdL at h
 split at h
 ·cases h
 ·rename_i v hv
  split at h
  ·rename_i hl
   cases h
   exact ⟨candP_bare hv,line_ok (by rw [hl];exact hs),hl⟩
  ·cases h
theorem rdL_of{s:Str}{u:api_Unit}{d:Nat}(h:isL s u d):rdL s=some (u,d):=by
 obtain ⟨h1,h2,_,h4⟩:=isL_parts h
 unfold rdL
 rw [h1,candP_toks h.1 h4,h2]
 simp only
 rw [if_pos h.2.2]
theorem rdL_R(s:Str):rdL s=(match candR (splitC 32 (s.dropWhile sp)) with
  | none=>none
  | some u=>if lineS u (depS s:Int)=s∧s≠ [] then some (u,depS s) else none):=by
 cases hr:rdL s with
 | some p=>
  obtain ⟨u,d⟩:=p
  have h:=rdL_some hr
  obtain ⟨h1,h2,h3,h4⟩:=isL_parts h
  rw [h1,candR_toks h.1 h4,h2]
  simp only
  rw [if_pos ⟨h.2.2,h3⟩]
 | none=>
  cases hc:candR (splitC 32 (s.dropWhile sp)) with
  | none=>rfl
  | some u=>
   simp only
   split
   ·rename_i hl
    have:rdL s=some (u,depS s):=rdL_of ⟨candR_bare hc,line_ok (by rw [hl.1];exact hl.2),hl.1⟩
    rw [hr] at this;cases this
   ·rfl
theorem trim_ok(s:Str):To (fun n=>M.strings_TrimLeft n s [32]) (s.dropWhile sp):=by
 have loop:∀ s:Str,To (fun n=>M.strings_trimLeftByte_loop1 (32:Int) n s) (s.dropWhile sp):=by
  intro s
  induction s with
  | nil=>
   refine To.succ ?_
   simp only [M.strings_trimLeftByte_loop1]
   exact To.neg (by simp) To.pure
  | cons c r ih=>
   refine To.succ ?_
   simp only [M.strings_trimLeftByte_loop1]
   refine To.pos (by simp) (To.bindS idx_zero ?_)
   by_cases hc:c=32
   ·subst hc
    refine To.pos (by decide) (To.bindS (a:=r) ?_ (ih.of (by rw [List.dropWhile_cons_of_pos (by decide)])))
    unfold slcLo
    rw [if_pos (by simp;omega)];rfl
   ·refine To.neg ?_ (To.pure.of (by rw [List.dropWhile_cons_of_neg (by simpa [sp] using hc)]))
    intro e
    apply hc
    apply UInt8.toNat_inj.1
    show c.toNat=32
    omega
 simp only [M.strings_TrimLeft]
 by_cases hs:s= []
 ·subst hs
  exact To.bind (a:=true) (To.pos (by simp) To.pure) (To.pos rfl To.pure)
 ·refine To.bind (a:=false) (To.neg (by simpa using hs) (To.pure.of (by decide))) (To.neg (by simp) ?_)
  refine To.bind (a:=true) (To.pos (by decide) (To.bindS idx_zero (To.pure.of (by decide)))) (To.pos rfl (To.bindS idx_zero ?_))
  refine To.bind (a:=s.dropWhile sp) ?_ To.pure
  simp only [M.strings_trimLeftByte]
  exact To.bind (loop s) To.pure
theorem unesc_ok(t:Str):M.strings_TrimPrefix t [92]=some (unesc t):=by
 unfold M.strings_TrimPrefix M.internal_stringslite_TrimPrefix M.internal_stringslite_HasPrefix
 cases t with
 | nil=>rfl
 | cons c r=>
  have h1:(([92]:Str).length:Int)≤((c :: r).length:Int):=by simp;omega
  have h2:slcHi (c :: r) (([92]:Str).length:Int)=some [c]:=by
   unfold slcHi
   rw [if_pos (by simp;omega)];rfl
  have h3:slcLo (c :: r) (([92]:Str).length:Int)=some r:=by
   unfold slcLo
   rw [if_pos (by simp;omega)];rfl
  rw [if_pos h1,h2,Option.bind_some,Option.bind_some]
  rw [unesc_cons]
  by_cases hc:c=92
  ·subst hc
   rw [if_pos (by decide),h3,if_pos rfl];rfl
  ·rw [if_neg (by simpa using hc),if_neg hc];rfl
theorem pwords_loop:∀ (l:List Str) (o:List api_Word),o.length+l.length≤100000000→M.plaintext_words_loop1 l o=some (o++(l.map unesc).map mkW)
 | [],o,_=>by simp [M.plaintext_words_loop1]
 | t :: l,o,h=>by
  simp only [List.length_cons] at h
  simp only [M.plaintext_words_loop1]
  rw [unesc_ok,Option.bind_some,appC_eq (by simp;omega),Option.bind_some,pwords_loop l _ (by simp;omega)]
  simp [mkW]
theorem pwords_ok(l:List Str)(h:l.length≤10000000):M.plaintext_words l=some ((l.map unesc).map mkW):=by
 unfold M.plaintext_words
 rw [pwords_loop l [] (by simp;omega)];rfl
theorem cut_suffix(a:Str)(ha:a.length≤1000000000):M.strings_CutSuffix a [58]=some (cutC a):=by
 unfold M.strings_CutSuffix M.internal_stringslite_CutSuffix M.internal_stringslite_HasSuffix cutC
 rcases List.eq_nil_or_concat a with rfl | ⟨r,c,rfl⟩
 ·rfl
 ·rw [List.concat_eq_append] at ha ⊢
  have hl:(r++ [c]).length=r.length+1:=by simp
  have h1:(([58]:Str).length:Int)≤((r++ [c]).length:Int):=by simp;omega
  have h2:subC ((r++ [c]).length:Int) (([58]:Str).length:Int)=some (r.length:Int):=by
   rw [subC_eq (by simp) (by simp;omega)]
   simp
  have h3:slcLo (r++ [c]) (r.length:Int)=some [c]:=by
   unfold slcLo
   rw [if_pos (by simp;omega)]
   simp
  have h4:slcHi (r++ [c]) (r.length:Int)=some r:=by
   unfold slcHi
   rw [if_pos (by simp;omega)]
   simp
  rw [if_pos h1,h2,Option.bind_some,h3,Option.bind_some,Option.bind_some]
  have hg:(r++ [c]).getLast? =some c:=by simp
  rw [hg]
  by_cases hc:c=58
  ·subst hc
   rw [if_neg (by decide),Option.bind_some,h4,Option.bind_some,if_pos rfl]
   simp
  ·rw [if_pos (by simpa using hc),if_neg (by simpa using hc)]
   rfl
theorem bar_ok(l:List Str):To (fun n=>M.slices_Index_string_string n l [124]) (if from1 l= [] then -1 else ((upto l).length:Int)):=by
 have loop:∀ (xs:List Str) (i:Nat),l.drop i=xs→To (fun n=>M.slices_Index_string_string_loop1 l [124] n (i:Int)) (if from1 xs= [] then .inl () else .inr ((i+(upto xs).length:Nat):Int)):=by
  intro xs
  induction xs with
  | nil=>
   intro i hx
   refine To.succ ?_
   simp only [M.slices_Index_string_string_loop1]
   exact To.neg (drop_end hx) (To.pure.of (by simp [from1]))
  | cons x xs ih=>
   intro i hx
   refine To.succ ?_
   simp only [M.slices_Index_string_string_loop1]
   refine To.pos (drop_lt hx) (To.bindS (drop_idx hx) ?_)
   by_cases hb:x= [124]
   ·subst hb
    refine To.pos (by decide) (To.pure.of ?_)
    unfold from1 upto
    rw [List.dropWhile_cons_of_neg (by decide),List.takeWhile_cons_of_neg (by decide),if_neg (by simp)]
    simp
   ·have hn:isBar x=false:=by simpa [isBar] using hb
    refine To.neg (by simpa using fun e=>hb (Eq.symm e)) ?_
    rw [cast_succ]
    refine (ih (i+1) (drop_next hx)).of ?_
    unfold from1 upto
    rw [List.dropWhile_cons_of_pos (by simp [hn]),List.takeWhile_cons_of_pos (by simp [hn])]
    split
    ·rfl
    ·simp only [List.length_cons];congr 2;omega
 simp only [M.slices_Index_string_string]
 refine To.bind (loop l 0 rfl) ?_
 by_cases h:from1 l= []
 ·rw [if_pos h,if_pos h];exact To.pure
 ·rw [if_neg h,if_neg h];exact To.pure.of (by simp)
theorem upto_from(l:List Str):upto l++from1 l=l:=List.takeWhile_append_dropWhile
theorem bar_take(l:List Str):l.take (upto l).length=upto l∧l.drop (upto l).length=from1 l:=by
 have h:=upto_from l
 constructor
 ·calc l.take (upto l).length=(upto l++from1 l).take (upto l).length:=by rw [h]
   _=upto l:=by rw [List.take_append_of_le_length (Nat.le_refl _),List.take_length]
 ·calc l.drop (upto l).length=(upto l++from1 l).drop (upto l).length:=by rw [h]
   _=from1 l:=by simp
theorem drop_le(s:Str):(s.dropWhile sp).length≤s.length:=by
 have:=(List.dropWhile_sublist sp (l:=s)).length_le
 exact this
theorem mkU_small{k:Int}{l:Str}{h w:List Str}{m:Nat}(h1:l.length≤m)(h2:h.length≤m)(h3:w.length≤m)(hm:m≤10000000):smallU (mkU k l h w):=
 ⟨by show l.length≤_;omega,by show (h.map mkW).length≤_;simp;omega,by show (w.map mkW).length≤_;simp;omega⟩
def zU:api_Unit:=mkU 0 [] [] []
def resP(s:Str):api_Unit×Int×Int:=match rdL s with
 | some (u,d)=>(u,(d:Int),0)
 | none=>(zU,0,2)
theorem dep_int(s:Str)(h:s.length≤1000000):∃ v,subC (s.length:Int) ((s.dropWhile sp).length:Int)=some v∧quoC v 2=some (depS s:Int):=by
 have:=drop_le s
 refine ⟨((s.length-(s.dropWhile sp).length:Nat):Int),?_,?_⟩
 ·rw [subC_eq (by omega) (by omega)]
  congr 1;omega
 ·exact quo_nat _ 2 (by omega) (by omega)
theorem cutC_len(a:Str):(cutC a).1.length≤a.length:=by
 unfold cutC
 split
 ·simp
 ·exact Nat.le_refl _
theorem pline_ok(s:Str)(hs:s.length≤100000):To (fun n=>M.plaintext_ParseLine n s) (resP s):=by
 simp only [M.plaintext_ParseLine]
 obtain ⟨v,hv1,hv2⟩:=dep_int s (by omega)
 have hdl:=drop_le s
 have hsp:splitM (s.dropWhile sp) [32]=some (splitC 32 (s.dropWhile sp)):=if_pos (by omega)
 obtain ⟨x,l,hx⟩:=splitC_cons 32 (s.dropWhile sp)
 have hlens:=splitC_lens 32 (s.dropWhile sp)
 have hlen:=splitC_len 32 (s.dropWhile sp)
 rw [hx] at hsp hlens hlen
 simp only [List.length_cons] at hlen
 refine To.bind (trim_ok s) (To.bindS hv1 (To.bindS hv2 (To.bindS hsp (To.bindS idx_zero (To.bind (kind_p x) ?_)))))
 have hrd:rdL s=(match candP (x :: l) with | none=>none | some u=>if lineS u (depS s:Int)=s then some (u,depS s) else none):=by
  unfold rdL;rw [hx]
 have fin:∀ u:api_Unit,smallU u→candP (x :: l)=some u→∀ f:Nat→Option api_Unit,To f u→To (fun n=>Option.bind (f n) fun u=>
   Option.bind (M.plaintext_FormatLine n u (depS s:Int)) fun format=>
   if (format !=s)=true then
    some ((⟨zapi_Id,(0:Int),([]:Str),([]:List api_Word),([]:List api_Word),([]:List api_Unit)⟩:api_Unit),(0:Int),(2:Int))
   else
    some (u,(depS s:Int),(0:Int))) (resP s):=by
  intro u hu hc f hf
  refine To.bind hf (To.bind (line_p u hu _) ?_)
  rw [hc] at hrd
  simp only at hrd
  unfold resP
  by_cases hl:lineS u (depS s:Int)=s
  ·rw [if_pos hl] at hrd
   rw [hrd]
   exact To.neg (by simp [hl]) To.pure
  ·rw [if_neg hl] at hrd
   rw [hrd]
   exact To.pos (by simpa using hl) To.pure
 cases hk:kd x with
 | none=>
  refine To.pos rfl (To.pure.of ?_)
  have:=candP_none (l:=l) hk
  rw [this] at hrd
  simp only at hrd
  unfold resP
  rw [hrd];rfl
 | some k=>
  refine To.neg (by simp) ?_
  have hsl:slcLo (x :: l) (1:Int)=some l:=by
   unfold slcLo
   rw [if_pos (by simp;omega)];rfl
  refine To.bindS hsl ?_
  by_cases hk0:k=0
  ·have hc:candP (x :: l)=some (mkU 0 [] [] []):=by rw [candP_some hk,if_pos hk0]
   refine fin _ (mkU_small (m:=0) (by simp) (by simp) (by simp) (by omega)) hc _ ?_
   refine To.bind (a:=false) (To.neg (by simpa using hk0) To.pure) (To.neg (by simp) (To.pure.of ?_))
   rw [hk0];rfl
  ·cases l with
   | nil=>
    have hc:candP [x]=some (mkU k [] [] []):=by rw [candP_some hk,if_neg hk0]
    refine fin _ (mkU_small (m:=0) (by simp) (by simp) (by simp) (by omega)) hc _ ?_
    exact To.bind (a:=false) (To.pos hk0 (To.pure.of (by simp))) (To.neg (by simp) To.pure)
   | cons a ws=>
    have ha:=hlens a (by simp)
    simp only [List.length_cons] at hlen
    have hcl:=cutC_len a
    have hut:(upto ws).length≤ws.length:=by
     have h1:=congrArg List.length (upto_from ws)
     simp only [List.length_append] at h1;omega
    have hc:candP (x :: a :: ws)=some (mkU k (cutC a).1 (if (cutC a).2=true then (upto ws).map unesc else []) (((from1 ws).drop 1).map unesc)):=by rw [candP_some hk,if_neg hk0]
    have hfl:(from1 ws).length≤ws.length:=by
     have h1:=congrArg List.length (upto_from ws)
     simp only [List.length_append] at h1;omega
    refine fin _ (mkU_small (m:=200000) (by omega) (by split<;> simp<;> omega) (by simp;omega) (by omega)) hc _ ?_
    have hs2:slcLo (a :: ws) (1:Int)=some ws:=by
     unfold slcLo
     rw [if_pos (by simp;omega)];rfl
    refine To.bind (a:=true) (To.pos hk0 (To.pure.of (by simp))) (To.pos rfl (To.bindS idx_zero (To.bindS (cut_suffix a (by omega)) (To.bindS hs2 (To.bind (bar_ok ws) ?_)))))
    -- the bar's place
    have hbar:To (fun n=>if (if from1 ws= [] then (-1:Int) else ((upto ws).length:Int))< (0:Int) then some (ws.length:Int) else some (if from1 ws= [] then (-1:Int) else ((upto ws).length:Int))) ((upto ws).length:Int):=by
     by_cases hf:from1 ws= []
     ·rw [if_pos hf]
      refine To.pos (by omega) (To.pure.of ?_)
      have h1:=upto_from ws
      rw [hf,List.append_nil] at h1
      rw [h1]
     ·rw [if_neg hf]
      exact To.neg (by omega) To.pure
    refine To.bind hbar ?_
    have hsh:slcHi ws ((upto ws).length:Int)=some (upto ws):=by
     unfold slcHi
     rw [if_pos (by omega),Int.toNat_natCast,(bar_take ws).1]
    have hmin:slcLo ws (min (((upto ws).length+1:Nat):Int) (ws.length:Int))=some ((from1 ws).drop 1):=by
     unfold slcLo
     rw [if_pos (by omega)]
     by_cases hf:from1 ws= []
     ·have h1:=upto_from ws
      rw [hf,List.append_nil] at h1
      rw [hf,h1]
      have:(min ((ws.length+1:Nat):Int) (ws.length:Int)).toNat=ws.length:=by omega
      rw [this,List.drop_length];rfl
     ·have hlt:(upto ws).length<ws.length:=by
       have h1:=congrArg List.length (upto_from ws)
       have h2:=List.length_pos_iff.2 hf
       simp only [List.length_append] at h1;omega
      have:(min (((upto ws).length+1:Nat):Int) (ws.length:Int)).toNat=(upto ws).length+1:=by omega
      rw [this,←(bar_take ws).2,List.drop_drop]
    refine To.bind (a:=mkU k (cutC a).1 (if (cutC a).2=true then (upto ws).map unesc else []) []) ?_ ?_
    ·cases hcc:(cutC a).2 with
     | true=>
      refine To.pos rfl (To.bindS hsh (To.bindS (pwords_ok _ (by omega)) (To.pure.of ?_)))
      rfl
     | false=>exact To.neg (by simp) (To.pure.of rfl)
    ·refine To.bindS (addC_succ (by omega)) (To.bindS hmin (To.bindS (pwords_ok _ (by simp;omega)) (To.pure.of ?_)))
     rfl
theorem rspc_ok(s:Str):∀ (xs:Str) (i:Nat),s.drop i=xs→To (fun n=>M.r11_Read_loop1 s n (i:Int)) ((i+(xs.takeWhile sp).length:Nat):Int)
 | [],i,hx=>by
  refine To.succ ?_
  simp only [M.r11_Read_loop1]
  exact To.neg (drop_end hx) (To.pure.of (by simp))
 | c :: xs,i,hx=>by
  refine To.succ ?_
  simp only [M.r11_Read_loop1]
  refine To.pos (drop_lt hx) (To.bindS (drop_idx hx) ?_)
  by_cases hc:c=32
  ·subst hc
   refine To.pos (by decide) ?_
   rw [cast_succ]
   refine (rspc_ok s xs (i+1) (drop_next hx)).of ?_
   rw [List.takeWhile_cons_of_pos (by decide)]
   simp only [List.length_cons];congr 1;omega
  ·refine To.neg ?_ (To.pure.of ?_)
   ·intro e
    apply hc
    apply UInt8.toNat_inj.1
    show c.toNat=32
    omega
   ·rw [List.takeWhile_cons_of_neg (by simpa [sp] using hc)];simp
theorem take_ok(w:List Str)(hw:w.length≤1000000)(hm:∀ t∈w,t.length≤1000000):To (fun n=>M.r11_take n w) (((upto w).map unesc2).map mkW,from1 w,true):=by
 have loop:∀ (xs:List Str) (i:Nat) (o:List api_Word),w.drop i=xs→o.length+xs.length≤2000000→To (fun n=>M.r11_take_loop1 w n o (i:Int)) (if from1 xs= [] then .inl (o++((upto xs).map unesc2).map mkW) else .inr (o++((upto xs).map unesc2).map mkW,from1 xs,true)):=by
  intro xs
  induction xs with
  | nil=>
   intro i o hx _
   refine To.succ ?_
   simp only [M.r11_take_loop1]
   exact To.neg (drop_end hx) (To.pure.of (by simp [from1,upto]))
  | cons x xs ih=>
   intro i o hx ho
   simp only [List.length_cons] at ho
   have hxl:=hm x (List.mem_of_getElem? (drop_cons hx).2.1)
   have hil:=(drop_cons hx).1
   refine To.succ ?_
   simp only [M.r11_take_loop1]
   refine To.pos (drop_lt hx) (To.bindS (drop_idx hx) ?_)
   by_cases hb:x= [124]
   ·subst hb
    have hsl:slcLo w (i:Int)=some ([124] :: xs):=by
     unfold slcLo
     rw [if_pos (by omega),Int.toNat_natCast,hx]
    refine To.pos (by decide) (To.bindS hsl (To.pure.of ?_))
    unfold from1 upto
    rw [List.dropWhile_cons_of_neg (by decide),List.takeWhile_cons_of_neg (by decide),if_neg (by simp)]
    simp
   ·have hn:isBar x=false:=by simpa [isBar] using hb
    refine To.neg (by simpa using hb) (To.bind (a:=unesc2 x) ?_ ?_)
    ·unfold unesc2
     by_cases hl:1<x.length
     ·rw [if_pos hl]
      cases x with
      | nil=>simp at hl
      | cons c r=>
       refine To.pos (by omega) (To.bindS idx_zero ?_)
       rw [unesc_cons]
       by_cases hc:c=92
       ·subst hc
        rw [if_pos rfl]
        refine To.pos (by decide) (To.bindS (a:=r) ?_ To.pure)
        unfold slcLo
        rw [if_pos (by simp;omega)];rfl
       ·rw [if_neg hc]
        refine To.neg ?_ To.pure
        intro e
        apply hc
        apply UInt8.toNat_inj.1
        show c.toNat=92
        omega
     ·rw [if_neg hl]
      exact To.neg (by omega) To.pure
    ·refine To.bindS (appC_eq (by simp;omega)) ?_
     rw [cast_succ]
     refine (ih (i+1) _ (drop_next hx) (by simp;omega)).of ?_
     unfold from1 upto
     rw [List.dropWhile_cons_of_pos (by simp [hn]),List.takeWhile_cons_of_pos (by simp [hn])]
     simp [mkW]
 simp only [M.r11_take]
 refine To.bind (loop w 0 [] rfl (by simp;omega)) ?_
 rw [List.nil_append]
 by_cases h:from1 w= []
 ·rw [if_pos h,h];exact To.pure
 ·rw [if_neg h];exact To.pure
def resR(s:Str):api_Unit×Int×Bool:=match rdL s with
 | some (u,d)=>(u,(d:Int),true)
 | none=>(zU,0,false)
theorem takeW_drop(s:Str):s.drop (s.takeWhile sp).length=s.dropWhile sp∧(s.takeWhile sp).length+(s.dropWhile sp).length=s.length:=by
 have h:s.takeWhile sp++s.dropWhile sp=s:=List.takeWhile_append_dropWhile
 refine ⟨?_,?_⟩
 ·calc s.drop (s.takeWhile sp).length=(s.takeWhile sp++s.dropWhile sp).drop (s.takeWhile sp).length:=by rw [h]
   _=s.dropWhile sp:=List.drop_left
 ·have:=congrArg List.length h
  rwa [List.length_append] at this
theorem upto_len(ws:List Str):(upto ws).length≤ws.length∧(from1 ws).length≤ws.length:=by
 have h1:=congrArg List.length (upto_from ws)
 simp only [List.length_append] at h1
 omega
theorem from1_mem{ws:List Str}{t:Str}(h:t∈from1 ws):t∈ws:=by
 rw [←upto_from ws];simp [h]
def outR(s:Str):Option api_Unit→Option (api_Unit×Nat)
 | none=>none
 | some u=>if lineS u (depS s:Int)=s∧s≠ [] then some (u,depS s) else none
theorem rfin(s:Str)(hs:s.length≤100000)(u:api_Unit)(hu:smallU u)(rest:List Str)(c:Option api_Unit)(hc:c=if rest= [] then some u else none)
  (hrd:rdL s=outR s c) :
  To (fun n=>Option.bind (
         if (0:Int)< (rest.length:Int) then
          some true
         else
          Option.bind (quoC ((s.takeWhile sp).length:Int) (2:Int)) fun v13=>
          Option.bind (M.r11_Line n u v13) fun line=>
          if (line !=s)=true then
           some true
          else
           some (s==([]:Str))
        ) fun v12=>
        if v12=true then
         some ((⟨zapi_Id,(0:Int),([]:Str),([]:List api_Word),([]:List api_Word),([]:List api_Unit)⟩:api_Unit),(0:Int),false)
        else
         Option.bind (quoC ((s.takeWhile sp).length:Int) (2:Int)) fun v14=>
         some (u,v14,true)) (resR s):=by
 obtain ⟨t1,t2⟩:=takeW_drop s
 have hq:quoC ((s.takeWhile sp).length:Int) (2:Int)=some (depS s:Int):=by
  have e:depS s=(s.takeWhile sp).length / 2:=by unfold depS;congr 1;omega
  rw [e]
  exact quo_nat _ 2 (by omega) (by omega)
 by_cases hr:rest= []
 ·rw [if_pos hr] at hc
  rw [hc] at hrd
  simp only [outR] at hrd
  have hrl:¬ (0:Int)< (rest.length:Int):=by rw [hr];simp
  unfold resR
  by_cases hl:lineS u (depS s:Int)=s
  ·by_cases he:s= []
   ·rw [if_neg (fun h=>h.2 he)] at hrd
    rw [hrd]
    exact To.bind (a:=true) (To.neg hrl (To.bindS hq (To.bind (line_r u hu _) (To.neg (by simp [hl]) (To.pure.of (by simpa using he)))))) (To.pos rfl To.pure)
   ·rw [if_pos ⟨hl,he⟩] at hrd
    rw [hrd]
    exact To.bind (a:=false) (To.neg hrl (To.bindS hq (To.bind (line_r u hu _) (To.neg (by simp [hl]) (To.pure.of (by simpa using he)))))) (To.neg (by simp) (To.bindS hq To.pure))
  ·rw [if_neg (fun h=>hl h.1)] at hrd
   rw [hrd]
   exact To.bind (a:=true) (To.neg hrl (To.bindS hq (To.bind (line_r u hu _) (To.pos (by simpa using hl) To.pure)))) (To.pos rfl To.pure)
 ·rw [if_neg hr] at hc
  rw [hc] at hrd
  simp only [outR] at hrd
  have hrl:(0:Int)< (rest.length:Int):=by have:=List.length_pos_iff.2 hr;omega
  unfold resR
  rw [hrd]
  exact To.bind (a:=true) (To.pos hrl To.pure) (To.pos rfl To.pure)
theorem rwords(s:Str)(hs:s.length≤100000)(k:Int)(lab:Str)(hd rest:List Str)(h1:lab.length≤200000)(h2:hd.length≤200000)(h3:rest.length≤200000)(hm:∀ t∈rest,t.length≤200000)
  (hrd:rdL s=outR s (wordR k lab hd rest)) :
  To (fun n=>Option.bind (
        Option.bind (
          if (0:Int)< (rest.length:Int) then
           Option.bind (idx rest (0:Int)) fun v10=>
           some (v10==([124]:Str))
          else
           some false
         ) fun v9=>
         if v9=true then
          Option.bind (slcLo rest (1:Int)) fun v11=>
          Option.bind (M.r11_take n v11) fun take1=>
          some (take1.2.1,({mkU k lab hd [] with Words:=take1.1}:api_Unit))
         else
          some (rest,mkU k lab hd [])
       ) fun (rest1,u2)=>
       Option.bind (
         if (0:Int)< (rest1.length:Int) then
          some true
         else
          Option.bind (quoC ((s.takeWhile sp).length:Int) (2:Int)) fun v13=>
          Option.bind (M.r11_Line n u2 v13) fun line=>
          if (line !=s)=true then
           some true
          else
           some (s==([]:Str))
        ) fun v12=>
        if v12=true then
         some ((⟨zapi_Id,(0:Int),([]:Str),([]:List api_Word),([]:List api_Word),([]:List api_Unit)⟩:api_Unit),(0:Int),false)
        else
         Option.bind (quoC ((s.takeWhile sp).length:Int) (2:Int)) fun v14=>
         some (u2,v14,true)) (resR s):=by
 cases rest with
 | nil=>
  refine To.bind (a:=(([]:List Str),mkU k lab hd [])) (To.bind (a:=false) (To.neg (by simp) To.pure) (To.neg (by simp) To.pure)) ?_
  exact rfin s hs _ (mkU_small h1 h2 (by simp) (by omega)) [] _ rfl hrd
 | cons b ws=>
  simp only [List.length_cons] at h3
  have hul:=upto_len ws
  by_cases hb:b= [124]
  ·subst hb
   have hsl:slcLo (([124]:Str) :: ws) (1:Int)=some ws:=by
    unfold slcLo
    rw [if_pos (by simp;omega)];rfl
   refine To.bind (a:=(from1 ws,mkU k lab hd ((upto ws).map unesc2))) (To.bind (a:=true) (To.pos (by simp) (To.bindS idx_zero (To.pure.of rfl))) (To.pos rfl (To.bindS hsl (To.bind (take_ok ws (by omega) (fun t ht=>by have:=hm t (by simp [ht]);omega)) (To.pure.of rfl))))) ?_
   refine rfin s hs _ (mkU_small h1 h2 (by simp;omega) (by omega)) (from1 ws) _ ?_ hrd
   show (if isBar [124]=true then (if from1 ws= [] then some (mkU k lab hd ((upto ws).map unesc2)) else none) else none)=_
   rw [if_pos bar_is]
  ·refine To.bind (a:=(b :: ws,mkU k lab hd [])) (To.bind (a:=false) (To.pos (by simp) (To.bindS idx_zero (To.pure.of (by simpa using hb)))) (To.neg (by simp) To.pure)) ?_
   refine rfin s hs _ (mkU_small h1 h2 (by simp) (by omega)) (b :: ws) _ ?_ hrd
   show (if isBar b=true then (if from1 ws= [] then some (mkU k lab hd ((upto ws).map unesc2)) else none) else none)=_
   rw [if_neg (by simpa [isBar] using hb),if_neg (by simp)]
theorem rd_ok(s:Str)(hs:s.length≤100000):To (fun n=>M.r11_Read n s) (resR s):=by
 simp only [M.r11_Read]
 obtain ⟨t1,t2⟩:=takeW_drop s
 have hdl:=drop_le s
 obtain ⟨x,l,hx⟩:=splitC_cons 32 (s.dropWhile sp)
 have hlens:=splitC_lens 32 (s.dropWhile sp)
 have hlen:=splitC_len 32 (s.dropWhile sp)
 have hcut:=cut_ok (s.dropWhile sp) (by omega)
 have hrd:rdL s=outR s (candR (splitC 32 (s.dropWhile sp))):=by
  rw [rdL_R s]
  cases candR (splitC 32 (s.dropWhile sp))<;> rfl
 rw [hx] at hlens hlen hcut hrd
 simp only [List.length_cons] at hlen
 have hsl:slcLo s ((s.takeWhile sp).length:Int)=some (s.dropWhile sp):=by
  unfold slcLo
  rw [if_pos (by omega),Int.toNat_natCast,t1]
 have h0:=rspc_ok s s 0 rfl
 rw [Nat.zero_add] at h0
 refine To.bind h0 (To.bindS hsl (To.bind hcut (To.bindS idx_zero (To.bind (kind_r x) ?_))))
 cases hk:kd x with
 | none=>
  rw [candR_none hk] at hrd
  simp only [outR] at hrd
  refine To.pos (by show (-1:Int)< 0;omega) (To.pure.of ?_)
  unfold resR
  rw [hrd];rfl
 | some k=>
  obtain ⟨k0,k7,_⟩:=kd_some hk
  rw [candR_some hk] at hrd
  refine To.neg (by show ¬ k<0;omega) ?_
  by_cases hk0:k=0
  ·rw [if_pos hk0] at hrd
   have hs1:slcLo (x :: l) (1:Int)=some l:=by
    unfold slcLo
    rw [if_pos (by simp;omega)];rfl
   refine To.bind (a:=(.inl (false,(1:Int),zapi_Unit,mkU 0 [] [] []):(Bool×Int×api_Unit×api_Unit) ⊕ (api_Unit×Int×Bool))) (To.neg (by show ¬ k≠0;omega) (To.pure.of (by rw [hk0];rfl))) ?_
   refine To.bindS hs1 (To.bind (a:=(l,mkU 0 [] [] [])) (To.neg (by simp) To.pure) ?_)
   exact rwords s hs 0 [] [] l (by simp) (by simp) (by omega) (fun t ht=>by have:=hlens t (by simp [ht]);omega) hrd
  ·rw [if_neg hk0] at hrd
   cases l with
   | nil=>
    refine To.bind (a:=(.inr (zU,(0:Int),false):(Bool×Int×api_Unit×api_Unit) ⊕ (api_Unit×Int×Bool))) (To.pos hk0 (To.pos (by simp) (To.pure.of rfl))) (To.pure.of ?_)
    simp only [outR] at hrd
    unfold resR
    rw [hrd]
   | cons a ws=>
    simp only [List.length_cons] at hlen
    have ha:=hlens a (by simp)
    have hcl:=cutC_len a
    have hul:=upto_len ws
    have hmw:∀ t∈ws,t.length≤200000:=fun t ht=>by have:=hlens t (by simp [ht]);omega
    have hs2:slcLo (x :: a :: ws) (2:Int)=some ws:=by
     unfold slcLo
     rw [if_pos (by simp;omega)];rfl
    refine To.bind (a:=(.inl ((cutC a).2,(2:Int),zapi_Unit,mkU k (cutC a).1 [] []):(Bool×Int×api_Unit×api_Unit) ⊕ (api_Unit×Int×Bool))) (To.pos hk0 (To.neg (by simp;omega) (To.bindS (a:=a) rfl ?_))) ?_
    ·rcases List.eq_nil_or_concat a with rfl | ⟨r,c,rfl⟩
     ·exact To.bind (a:=false) (To.neg (by simp) To.pure) (To.neg (by simp) (To.pure.of rfl))
     ·rw [List.concat_eq_append] at ha ⊢
      have hl:(r++ [c]).length=r.length+1:=by simp
      have h2:subC ((r++ [c]).length:Int) 1=some (r.length:Int):=by
       rw [subC_eq (by omega) (by omega)]
       simp
      have h3:idx (r++ [c]) (r.length:Int)=some c:=by
       rw [idx_nat];simp
      have h4:slcHi (r++ [c]) (r.length:Int)=some r:=by
       unfold slcHi
       rw [if_pos (by omega)]
       simp
      have hg:(r++ [c]).getLast? =some c:=by simp
      unfold cutC
      rw [hg]
      by_cases hc:c=58
      ·subst hc
       rw [if_pos rfl]
       refine To.bind (a:=true) (To.pos (by show (0:Int)< ((r++ [58]).length:Int);omega) (To.bindS h2 (To.bindS h3 (To.pure.of (by decide))))) (To.pos rfl (To.bindS h2 (To.bindS h4 (To.pure.of ?_))))
       simp [mkU]
      ·rw [if_neg (fun e=>hc (Option.some.inj e))]
       refine To.bind (a:=false) (To.pos (by show (0:Int)< ((r++ [c]).length:Int);omega) (To.bindS h2 (To.bindS h3 (To.pure.of ?_)))) (To.neg (by simp) (To.pure.of rfl))
       have:¬ (c.toNat:Int)=58:=by
        intro e
        apply hc
        apply UInt8.toNat_inj.1
        show c.toNat=58
        omega
       simp [this]
    ·refine To.bindS hs2 ?_
     simp only at hrd
     cases hcc:(cutC a).2 with
     | false=>
      rw [hcc,if_neg (by simp)] at hrd
      exact To.bind (a:=(ws,mkU k (cutC a).1 [] [])) (To.neg (by simp) To.pure) (rwords s hs k _ [] ws (by omega) (by simp) (by omega) hmw hrd)
     | true=>
      rw [hcc,if_pos rfl] at hrd
      refine To.bind (a:=(from1 ws,mkU k (cutC a).1 ((upto ws).map unesc2) [])) (To.pos rfl (To.bind (take_ok ws (by omega) (fun t ht=>by have:=hmw t ht;omega)) (To.pure.of rfl))) ?_
      exact rwords s hs k _ _ (from1 ws) (by omega) (by simp;omega) (by omega) (fun t ht=>hmw t (from1_mem ht)) hrd
end Go.Proofs.YtofaogkcifaioaaGreatDoor
