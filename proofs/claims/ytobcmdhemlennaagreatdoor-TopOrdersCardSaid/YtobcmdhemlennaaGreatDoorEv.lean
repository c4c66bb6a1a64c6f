/-
  What a function with fuel answers in the end; lists by index. Plain mathematics; nothing here speaks of a program or of the machine.
-/
import Derived.Test.YtobcmdhemlennaaGreatDoorDec4
set_option linter.unusedVariables false
set_option linter.unusedSimpArgs false
namespace Go.Dec
def To{α:Type}(f:Nat->Option α)(r:α):Prop:=∃ n0,∀ n,n0<=n->f n=some r
theorem To.pure{α:Type}{r:α}:To (λ_=>some r) r:=⟨0,λ_ _=>rfl⟩
theorem To.of{α:Type}{f:Nat->Option α}{r s:α}(h:To f r)(e:r=s):To f s:=e▸h
theorem To.eq{α:Type}{f g:Nat->Option α}{r:α}(h:To g r)(e:∀ n,f n=g n):To f r:=let ⟨n0,k⟩:=h;⟨n0,λn hn=>(e n).trans (k n hn)⟩
theorem To.opt{α:Type}{o:Option α}{r:α}(h:o=some r):To (λ_=>o) r:=⟨0,λ_ _=>h⟩
theorem To.succ{α:Type}{f:Nat->Option α}{r:α}(h:To (λn=>f (n+1)) r):To f r:=by
 obtain ⟨n0,k⟩:=h;refine ⟨n0+1,λn hn=>?_⟩;obtain ⟨m,rfl⟩:∃ m,n=m+1:=⟨n-1,by omega⟩
 exact k m (by omega)
theorem To.bind{α β:Type}{f:Nat->Option α}{g:Nat->α->Option β}{a:α}{r:β}(h:To f a)(k:To (λn=>g n a) r):To (λn=>Option.bind (f n) (g n)) r:=by
 obtain ⟨n1,h1⟩:=h;obtain ⟨n2,h2⟩:=k;refine ⟨max n1 n2,λn hn=>?_⟩;show Option.bind (f n) (g n)=_;rw [h1 n (by omega)];exact h2 n (by omega)
theorem To.bindS{α β:Type}{o:Option α}{g:Nat->α->Option β}{a:α}{r:β}(h:o=some a)(k:To (λn=>g n a) r):To (λn=>Option.bind o (g n)) r:=To.bind (f:=λ_=>o) ⟨0,λ_ _=>h⟩ k
theorem To.pos{α:Type}{p:Prop}[Decidable p]{f g:Nat->Option α}{r:α}(h:p)(k:To f r):To (λn=>if p then f n else g n) r:=k.eq λn=>if_pos h
theorem To.neg{α:Type}{p:Prop}[Decidable p]{f g:Nat->Option α}{r:α}(h:¬ p)(k:To g r):To (λn=>if p then f n else g n) r:=k.eq λn=>if_neg h
theorem To.ite{α:Type}{p:Prop}[Decidable p]{f g:Nat->Option α}{r:α}(h:p->To f r)(k:¬ p->To g r):To (λn=>if p then f n else g n) r:=by
 by_cases hp:p
 .exact To.pos hp (h hp)
 .exact To.neg hp (k hp)
theorem To.det{α:Type}{f:Nat->Option α}{r s:α}(h:To f r)(k:To f s):r=s:=by
 obtain ⟨n1,h1⟩:=h;obtain ⟨n2,h2⟩:=k;have e:=(h1 (max n1 n2) (by omega)).symm.trans (h2 (max n1 n2) (by omega));exact Option.some.inj e
theorem To.ex{α:Type}{f:Nat->Option α}{r:α}(h:To f r):∃ n,f n=some r:=let ⟨n,k⟩:=h;⟨n,k n (Nat.le_refl n)⟩
theorem To.shift{α:Type}{f:Nat->Option α}{r:α}(h:To f r):To (λn=>f (n+1)) r:=let ⟨n0,k⟩:=h;⟨n0,λn hn=>k (n+1) (by omega)⟩
theorem To.far{α:Type}{f:Nat->Option α}{r:α}(k:Nat)(h:∀ m,f (m+k)=Option.some r):To f r:=⟨k,λn hn=>by
 obtain ⟨m,rfl⟩:∃ m,n=m+k:=⟨n-k,by omega⟩
 exact h m⟩
theorem To.unbind{α β:Type}{f:Nat->Option α}{g:Nat->α->Option β}{a:α}{r:β}(h:To (λn=>Option.bind (f n) (g n)) r)(k:To f a):To (λn=>g n a) r:=by
 obtain ⟨n1,h1⟩:=h;obtain ⟨n2,h2⟩:=k;refine ⟨max n1 n2,λn hn=>?_⟩;have h3:=h1 n (by omega);simp only [h2 n (by omega)] at h3;exact h3
theorem To.unpos{α:Type}{p:Prop}[Decidable p]{f g:Nat->Option α}{r:α}(h:To (λn=>if p then f n else g n) r)(k:p):To f r:=h.eq λn=>(if_pos k).symm
theorem To.unneg{α:Type}{p:Prop}[Decidable p]{f g:Nat->Option α}{r:α}(h:To (λn=>if p then f n else g n) r)(k:¬ p):To g r:=h.eq λn=>(if_neg k).symm
theorem To.unpure{α:Type}{a r:α}(h:To (λ_=>Option.some a) r):a=r:=(To.pure).det h
def Tot{α:Type}(f:Nat->Option α):Prop:=∃ r,To f r
theorem To.tot{α:Type}{f:Nat->Option α}{r:α}(h:To f r):Tot f:=⟨r,h⟩
theorem Tot.shift{α:Type}{f:Nat->Option α}(h:Tot f):Tot (λn=>f (n+1)):=h.imp λ_=>To.shift
theorem Tot.pure{α:Type}{r:α}:Tot (λ_=>some r):=⟨r,To.pure⟩
theorem Tot.succ{α:Type}{f:Nat->Option α}(h:Tot (λn=>f (n+1))):Tot f:=h.imp λ_=>To.succ
theorem Tot.bind{α β:Type}{f:Nat->Option α}{g:Nat->α->Option β}(h:Tot f)(k:∀ a,To f a->Tot (λn=>g n a)):Tot (λn=>Option.bind (f n) (g n)):=by
 obtain ⟨a,ha⟩:=h;exact (k a ha).imp λr hr=>To.bind ha hr
theorem Tot.bindS{α β:Type}{o:Option α}{g:Nat->α->Option β}{a:α}(h:o=some a)(k:Tot (λn=>g n a)):Tot (λn=>Option.bind o (g n)):=k.imp λ_ hr=>To.bindS h hr
theorem Tot.pos{α:Type}{p:Prop}[Decidable p]{f g:Nat->Option α}(h:p)(k:Tot f):Tot (λn=>if p then f n else g n):=k.imp λ_ hr=>To.pos h hr
theorem Tot.neg{α:Type}{p:Prop}[Decidable p]{f g:Nat->Option α}(h:¬ p)(k:Tot g):Tot (λn=>if p then f n else g n):=k.imp λ_ hr=>To.neg h hr
theorem Tot.ite{α:Type}{p:Prop}[Decidable p]{f g:Nat->Option α}(h:p->Tot f)(k:¬ p->Tot g):Tot (λn=>if p then f n else g n):=by
 by_cases hp:p
 .exact Tot.pos hp (h hp)
 .exact Tot.neg hp (k hp)
theorem fT{α:Type}{l:List α}{i:Nat}{x:α}{xs:List α}(h:l.drop i=x :: xs):i<l.length/\l[i]? =Option.some x/\l.drop (i+1)=xs:=by
 have hl:i<l.length:=by
  rcases Nat.lt_or_ge i l.length with h1 | h1
  .exact h1
  .rw [List.drop_eq_nil_of_le h1] at h;cases h
 rw [List.drop_eq_getElem_cons hl] at h;cases h;exact ⟨hl,List.getElem?_eq_getElem hl,rfl⟩
theorem aD{α:Type}{l:List α}{i:Nat}{x:α}{xs:List α}(h:l.drop i=x :: xs):(i:Int)< (l.length:Int):=by have:=(fT h).1;omega
theorem ax{α:Type}{l:List α}{i:Nat}{x:α}{xs:List α}(h:l.drop i=x :: xs):idx l (i:Int)=Option.some x:=by rw [lI];exact (fT h).2.1
theorem aC{α:Type}{l:List α}{i:Nat}{x:α}{xs:List α}(h:l.drop i=x :: xs):l.drop (i+1)=xs:=(fT h).2.2
theorem aM{α:Type}{l:List α}{i:Nat}(h:l.drop i= []):¬ (i:Int)< (l.length:Int):=by
 have:=List.drop_eq_nil_iff.1 h;omega
theorem aP(i:Nat):(i:Int)+1=((i+1:Nat):Int):=by simp
theorem eO{i:Nat}(h:i<9223372036854775807):addC (i:Int) 1=Option.some ((i+1:Nat):Int):=by
 rw [ku (by omega) (by omega)];simp
theorem eP{α:Type}{x:α}{xs:List α}:idx (x :: xs) (0:Int)=Option.some x:=by simp [idx]
theorem pW{α:Type}{l:List α}{i:Int}(h0:0<=i)(h1:i<(l.length:Int)):∃ x,idx l i=Option.some x/\x∈l:=by
 have hl:i.toNat<l.length:=by omega
 exact ⟨l[i.toNat],by simp [idx,h0,List.getElem?_eq_getElem hl],List.getElem_mem hl⟩
theorem zy{α:Type}{l:List α}{i:Int}{x:α}(h:idx l i=Option.some x):x∈l:=by
 unfold idx at h;split at h
 .exact List.mem_of_getElem? h
 .cases h
end Go.Dec
