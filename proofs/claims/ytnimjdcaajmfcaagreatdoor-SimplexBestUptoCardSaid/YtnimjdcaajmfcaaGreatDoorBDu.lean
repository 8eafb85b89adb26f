/- A text of the prover's own. -/
import Derived.Test.YtnimjdcaajmfcaaGreatDoorBKb
import Derived.Test.YtnimjdcaajmfcaaGreatDoorBLr
open List renaming range->ati,length_cons->asw,map_take->auD,map_cons->asF,sum_cons->avo,map_set->aue,map_map->avm,map_congr_left->avn
namespace Go.Mx
open Go Go.Sv Go.Pl Go.Proofs Go.Tb Go.Ut
def D8(a b:List Rat)(y:Rat):List Rat:=(ati a.length).map λj=>gt a j - gt b j*y
def vk(h:List Rat)(c:Nat):List Rat:=h.map λx=>x / gt h c
def Gc(m:List (List Rat))(k t i:Nat):List Rat:=if i=k then gt m t else if i=t then gt m k else gt m i
def jM(m:List (List Rat))(k t c:Nat):List (List Rat):=(ati m.length).map λi =>
 if i=k then vk (gt m t) c else D8 (Gc m k t i) (vk (gt m t) c) (gt (Gc m k t i) c)
def tV(m:List (List Rat))(c k t:Nat):Prop:=k<=t∧t<m.length∧gt (gt m t) c≠0∧∀i,k<=i->i<t->gt (gt m i) c=0
def aaU(m:List (List Rat))(c k:Nat):Prop:=∀i,k<=i->i<m.length->gt (gt m i) c=0
open Classical in
noncomputable def oS(s:List (List Rat) × List Nat)(c:Nat):List (List Rat) × List Nat :=
 if s.2.length<s.1.length then
  if h:∃t,tV s.1 c s.2.length t then(jM s.1 s.2.length h.choose c,s.2++[c]) else s
 else s
theorem FT{m:List (List Rat)}{c k t t':Nat}(h:tV m c k t)(h':tV m c k t'):t=t':=by
 rcases Nat.lt_trichotomy t t' with g | g | g
 ·exact absurd (h'.2.2.2 t h.1 g) h.2.2.1
 ·exact g
 ·exact absurd (h.2.2.2 t' h'.1 g) h'.2.2.1
theorem y9{s:List (List Rat) × List Nat}{c t:Nat}(hl:s.2.length<s.1.length)(h:tV s.1 c s.2.length t):oS s c=(jM s.1 s.2.length t c,s.2++[c]):=by have hx:∃t,tV s.1 c s.2.length t:=⟨t,h⟩;unfold oS;rw[if_pos hl,dif_pos hx,FT hx.choose_spec h]
theorem vg{s:List (List Rat) × List Nat}{c:Nat}(h:¬s.2.length<s.1.length):oS s c=s:=by unfold oS;rw[if_neg h]
noncomputable def cA(a:List (List Rat)):Nat->List (List Rat) × List Nat
 | 0=>(a,[])
 | c+1=>oS (cA a c) c
theorem yo{a:List (List Rat)}{c:Nat}(h:¬(cA a c).2.length<(cA a c).1.length):∀d,cA a (c+d)=cA a c
 | 0=>rfl
 | d+1=>by show oS (cA a (c+d)) (c+d)=_;rw[yo h d,vg h]
structure Tw(n w W:Nat)(m:List (List Rat)):Prop where
 l:m.length=n
 r:∀i,i<n->(gt m i).length=w
 q:∀i j,i<n->j<w->qw W (gt (gt m i) j)
theorem bF{α:Type}[Inhabited α](f:Nat->α){n i:Nat}(h:i<n):gt ((ati n).map f) i=f i:=by simp[gt,h]
@[simp] theorem Dc(a b:List Rat)(y:Rat):(D8 a b y).length=a.length:=by simp[D8]
@[simp] theorem ZG(h:List Rat)(c:Nat):(vk h c).length=h.length:=by simp[vk]
theorem xd{a b:List Rat}{y:Rat}{j:Nat}(h:j<a.length):gt (D8 a b y) j=gt a j - gt b j*y:=by unfold D8;rw[bF _ h]
theorem BL{a:List Rat}{c j:Nat}(h:j<a.length):gt (vk a c) j=gt a j / gt a c:=by unfold vk;rw[jj _ h]
@[simp] theorem j4(m:List (List Rat))(k t c:Nat):(jM m k t c).length=m.length:=by simp[jM]
theorem iN{m:List (List Rat)}{k t c i:Nat}(h:i<m.length):gt (jM m k t c) i=if i=k then vk (gt m t) c else D8 (Gc m k t i) (vk (gt m t) c) (gt (Gc m k t i) c):=by unfold jM;rw[bF _ h]
theorem RA{n w W:Nat}{m:List (List Rat)}(h:Tw n w W m){k t i:Nat}(hk:k<n)(ht:t<n)(hi:i<n):(Gc m k t i).length=w∧∀j,j<w->qw W (gt (Gc m k t i) j):=by
 unfold Gc;split
 ·exact⟨h.r t ht,λj hj=>h.q t j ht hj⟩
 ·split
  ·exact⟨h.r k hk,λj hj=>h.q k j hk hj⟩
  ·exact⟨h.r i hi,λj hj=>h.q i j hi hj⟩
theorem Nz{n w W:Nat}{m:List (List Rat)}(h:Tw n w W m){t c:Nat}(ht:t<n)(hc:c<w)(hW:1<=W):(vk (gt m t) c).length=w∧∀j,j<w->qw (2*W) (gt (vk (gt m t) c) j):=by refine⟨by simp[h.r t ht],λj hj=>?_⟩;rw[BL (by rw[h.r t ht];exact hj)];exact ay (kX (h.q t j ht hj) (h.q t c ht hc) hW) (by omega)
theorem Zh{w W:Nat}{a b:List Rat}{y:Rat}(la:a.length=w)(ha:∀j,j<w->qw W (gt a j))(hb:∀j,j<w->qw (2*W) (gt b j))(hy:qw W y)(hW:1<=W):∀j,j<w->qw (5*W) (gt (D8 a b y) j):=λj hj=>by rw[xd (by omega)];exact ay (nL (ha j hj) (cx (hb j hj) hy (by omega))) (by omega)
theorem Tw.step{n w W:Nat}{m:List (List Rat)}(h:Tw n w W m){k t c:Nat}(hk:k<n)(ht:t<n)(hc:c<w)(hW:1<=W):Tw n w (5*W) (jM m k t c) where
 l:=by rw[j4,h.l]
 r:=λi hi=>by
  rw[iN (by rw[h.l];exact hi)];split
  ·exact(Nz h ht hc hW).1
  ·rw[Dc];exact(RA h hk ht hi).1
 q:=λi j hi hj=>by
  rw[iN (by rw[h.l];exact hi)];split
  ·exact ay ((Nz h ht hc hW).2 j hj) (by omega)
  ·have s:=RA h hk ht hi;exact Zh s.1 s.2 (Nz h ht hc hW).2 (s.2 c hc) hW j hj
theorem E3{a:List (List Rat)}{n w:Nat}(h:Tw n w 2200 a):∀c,c<=w->Tw n w (2200*5^(cA a c).2.length) (cA a c).1∧(cA a c).2.length<=n
 | 0,_=>⟨by simpa[cA]using h,by simp[cA]⟩
 | c+1,hc=>by
  obtain⟨ih,il⟩:=E3 h c (by omega);show Tw n w (2200*5^(oS (cA a c) c).2.length) (oS (cA a c) c).1∧(oS (cA a c) c).2.length<=n;by_cases hl:(cA a c).2.length<(cA a c).1.length
  ·by_cases hp:∃t,tV (cA a c).1 c (cA a c).2.length t
   ·obtain⟨t,hp⟩:=hp;rw[y9 hl hp];have hn:=ih.l;have:=ih.step (k:=(cA a c).2.length) (t:=t) (c:=c) (by omega) (by have:=hp.2.1;omega) (by omega) (by have:=Nat.pow_pos (n:=(cA a c).2.length) (show 0<5 by omega);omega);refine⟨?_,by simp;omega⟩;simp only[List.length_append,asw,List.length_nil,Nat.pow_succ,Nat.zero_add]
    rwa [show 2200*(5^(cA a c).2.length*5)=5*(2200*5^(cA a c).2.length) by omega]
   ·have:oS (cA a c) c=cA a c:=by unfold oS;rw[dif_neg hp];split<;>rfl
    rw[this];exact⟨ih,il⟩
  ·rw[vg hl];exact⟨ih,il⟩
theorem yQ{α:Type}(k i:Nat)(f:α->SV)(l:List α):SV.aZ k ((l.map f).take i)=(l.take i).any λx=>(f x).cj k:=by rw[<-auD,iU]
theorem xB{α:Type}(i:Nat)(f:α->SV)(l:List α):SV.bJ ((l.map f).take i)=(l.take i).all λx=>(f x).pure:=by rw[<-auD,u4]
theorem FP{α:Type}(k i:Nat)(f:α->SV)(l:List α):SV.kZ k ((l.map f).take i)=(l.take i).all λx=>(f x).lt k:=by rw[<-auD,qA]
attribute [simp] iU yQ xB FP
theorem vH{α:Type}[Inhabited α](f:α->SV){l:List α}{i:Nat}(h:i<l.length):(l.map f).take (i+1)=(l.map f).take i++[f (gt l i)]:=by rw[<-auD,fO h];simp
end Go.Mx
namespace Go.Proofs
open Go.Sv Go Go.Tb Go.Pl Go.Ut Go.Mx
def rp(i:Nat):SV:=iv i
@[simp] theorem afB(i:Nat):rp i=iv i:=rfl
end Go.Proofs
namespace Go.Mx
open Go Go.Sv Go.Pl Go.Proofs Go.Tb Go.Ut
def abx(r o:List Rat)(y:Rat)(i:Nat):List Rat:=(ati r.length).map λj=>if j<i then gt r j - gt o j*y else gt r j
@[simp] theorem ZL(r o:List Rat)(y:Rat)(i:Nat):(abx r o y i).length=r.length:=by simp[abx]
end Go.Mx
namespace Go.Proofs
open Go.Sv Go Go.Tb Go.Pl Go.Ut Go.Mx
end Go.Proofs
namespace Go.Tb
open Go Go.Sv Go.Pl Go.Proofs
def o9:Pt:=.sl .str
theorem LY(x:o9.T):o9.sv x=.ro ((x:List ByteArray).map eF):=rfl
theorem Bq{α:Type}{f:α->Nat}:∀{l:List α} {x:α},x∈l->f x<=(l.map f).sum
 | y::l,x,h=>by
  simp only[asF,avo];rcases List.mem_cons.1 h with rfl | h
  ·omega
  ·have:=Bq (f:=f) h;omega
theorem CA{α:Type}{f:α->Nat}(hf:∀x,1<=f x):∀{l:List α},l.length<=(l.map f).sum
 | []=>by simp
 | y::l=>by have:=CA hf (l:=l);have:=hf y;simp only[asF,avo,asw];omega
theorem DD{x:o9.T}(h:o9.bk x<=1048576):QH (x:List ByteArray):=by
 have h':(List.map Pt.str.bk (x:List ByteArray)).sum+1<=1048576:=h;refine⟨?_,λs hs=>?_⟩
 ·have:=CA (f:=Pt.str.bk) (λy=>by show 1<=ByteArray.size y+1;omega) (l:=(x:List ByteArray));exact Nat.le_trans this (by omega)
 ·have:Pt.str.bk s<=_:=Bq (f:=Pt.str.bk) hs;have e:Pt.str.bk s=s.size+1:=rfl;omega
end Go.Tb
namespace Go.Mx
open Go Go.Sv Go.Pl Go.Proofs Go.Tb Go.Ut
def vw(w i:Nat):SV:=.view (i+1) 0 w
def ap6(w:Nat)(π:List Nat):List SV:=π.map (vw w)
def ey(C:List (List Rat)):aD:=C.map λr=>some ⟨4,r.map aU,false⟩
@[simp] theorem ae9(C:List (List Rat)):(ey C).length=C.length:=by simp[ey]
theorem pY(k:Nat)(C:List (List Rat)):eE k (ey C)=true:=by simp[eE,ey]
theorem nQ(k:Nat)(A B:aD):eE k (A++B)=(eE k A&&eE k B):=by simp[eE]
theorem PJ{A B:aD}{i:Nat}(h:i<A.length):aA (A++B) i=aA A i:=by
 induction A generalizing i with
 | nil=>simp at h
 | cons x A ih=>cases i with
  | zero=>rfl
  | succ i=>simpa[aA]using ih (by simpa using h)
theorem m9{A B:aD}{i n:Nat}(h:A.length=n):aA (A++B) (n+i)=aA B i:=by
 subst h
 induction A with
 | nil=>simp
 | cons x A ih=>simp only[List.cons_append,asw,show A.length+1+i=A.length+i+1 by omega,aA];exact ih
theorem pS{A B:aD}{i n:Nat}{y:Option cz}(h:A.length=n):aX (A++B) (n+i) y=A++aX B i y:=by subst h;rw[dI,dI,List.set_append_right _ _ (by omega)];simp
theorem e9{C:List (List Rat)}{tl:aD}{e:Nat}(h:e<C.length):aA (ey C++tl) e=some ⟨4,(gt C e).map aU,false⟩:=by
 rw[PJ (by simpa using h)];unfold ey
 induction C generalizing e with
 | nil=>simp at h
 | cons x C ih=>cases e with
  | zero=>rfl
  | succ e=>simpa[aA,gt]using ih (by simpa using h)
theorem wG{C:List (List Rat)}{tl:aD}{e:Nat}{r:List Rat}(h:e<C.length):aX (ey C++tl) e (some ⟨4,r.map aU,false⟩)=ey (C.set e r)++tl:=by rw[dI,List.set_append_left _ _ (by simpa using h)];unfold ey;rw[aue]
theorem kY(A:aD){B B':aD}(h:fI B B'):fI (A++B) (A++B'):=by
 induction A with
 | nil=>exact h
 | cons x A ih=>simpa[fI]using ih
structure Rep(n:Nat)(π:List Nat)(C:List (List Rat))(f:Nat->List Rat):Prop where
 lp:π.length=n
 lc:C.length=n
 b:∀i,i<n->gt π i<n
 inj:∀i j,i<n->j<n->gt π i=gt π j->i=j
 e:∀i,i<n->gt C (gt π i)=f i
def acD(w n i:Nat):List SV:=(ati n).map λj=>if j<i then vw w j else .ro []
@[simp] theorem Y6(w n i:Nat):(acD w n i).length=n:=by simp[acD]
theorem nO(k:Nat)(C:List (List Rat)):ee k (ey C):=by
 unfold ey
 induction C with
 | nil=>trivial
 | cons x C ih=>exact⟨by simp,ih⟩
theorem mB{k:Nat}{A B:aD}(h:ee k A)(h':ee k B):ee k (A++B):=by
 induction A with
 | nil=>exact h'
 | cons x A ih=>cases x with
  | none=>exact ih h
  | some e=>exact⟨h.1,ih h.2⟩
def Zo(r:List Rat)(c j:Nat):List Rat:=(ati r.length).map λx=>if x<j then gt r x / gt r c else gt r x
@[simp] theorem XN(r:List Rat)(c j:Nat):(Zo r c j).length=r.length:=by simp[Zo]
theorem cE{n:Nat}{R:List (List Rat)}{tl:aD}(h:R.length=n):aA (ey R++tl) n=aA tl 0:=m9 (i:=0) (by simpa using h)
theorem vV{n:Nat}{R:List (List Rat)}{tl:aD}(h:R.length=n):aA (ey R++tl) (n+1)=aA tl 1:=m9 (i:=1) (by simpa using h)
theorem cP{n:Nat}{R:List (List Rat)}{tl:aD}{y:Option cz}(h:R.length=n):aX (ey R++tl) n y=ey R++aX tl 0 y:=pS (i:=0) (by simpa using h)
theorem zF{n:Nat}{R:List (List Rat)}{tl:aD}{y:Option cz}(h:R.length=n):aX (ey R++tl) (n+1) y=ey R++aX tl 1 y:=pS (i:=1) (by simpa using h)
theorem tgC{n:Nat}{R:List (List Rat)}{tl:aD}(h:R.length=n):aA (ey R++tl) (n+2)=aA tl 2:=m9 (i:=2) (by simpa using h)
theorem KV(σ:Nat->Nat)(l:List Rat):dE σ (l.map aU)=l.map aU:=hI σ _ (by simp)
/-! the end: all rows are frozen -/
def rwN(R:List (List Rat))(j:Nat):aD:=(ati R.length).map λe=>if e<j then none else some ⟨4,(gt R e).map aU,false⟩
theorem Hq{k:Nat}{es:List SV}{α:Type}(f:α->SV)(l:List α):nI k es (l.map f)=l.map λx=>kj k es (f x):=by
 induction l with
 | nil=>rfl
 | cons x l ih=>simp[ih]
theorem wT:∀{M:aD} {k:Nat} {x:Option cz},M[k]?=some x->aA M k=x
 | [],k,x,h=>by simp at h
 | y::M,0,x,h=>by simpa[aA]using h
 | y::M,k+1,x,h=>by simpa[aA]using wT (M:=M) (k:=k) (by simpa using h)
@[simp] theorem afO(R:List (List Rat))(j:Nat):(rwN R j).length=R.length:=by simp[rwN]
end Go.Mx
namespace Go.Mx
open Go Go.Sv Go.Pl Go.Proofs Go.Tb Go.Ut
theorem kq{k:Nat}{es:List SV}(A B:aD):wg k es (A++B)=wg k es A++wg k es B:=by simp[wg]
theorem kA(A B:aD):rv (A++B)=rv A++rv B:=by simp[rv]
theorem M4(x:List Rat):lW (x.map aU)=x.map aU:=by
 induction x with
 | nil=>rfl
 | cons y x ih=>simp only[asF,lW,ih];congr 1
theorem tQ(C:List (List Rat)):rv (ey C)=ey C:=by unfold ey rv;rw[avm];refine avn λr _=>?_;simp[M4]
theorem yz(k:Nat)(A B:aD):o4 k (A++B)=o4 k A++o4 k B:=by simp[o4]
theorem PO(k:Nat)(x:List Rat):SV.aZ k (x.map aU)=false:=by rw[iU,List.any_eq_false];simp
theorem zc(k:Nat)(C:List (List Rat)):o4 k (ey C)=ey C:=by unfold ey o4;rw[avm];refine avn λr _=>?_;simp[]
theorem iF{l:List Nat}{i:Nat}(h:i<l.length):aL (l.map rp) i=iv ((gt l i:Nat):Int):=by rw[cy _ h];rfl
theorem KW{l:List Nat}{i x:Nat}:cZ (l.map rp) i (.val (.int .i64 ((x:Nat):Int)))=(l.set i x).map rp:=by rw[ec,aue];rfl
theorem cg{l:List Rat}{i:Nat}{x:Rat}:cZ (l.map aU) i (aU x)=(l.set i x).map aU:=by rw[ec,aue]
end Go.Mx
namespace Go.Proofs
open Go.Sv Go Go.Tb Go.Pl Go.Ut Go.Mx
end Go.Proofs
namespace Go.Mx
open Go Go.Sv Go.Pl Go.Proofs Go.Tb Go.Ut
end Go.Mx
namespace Go.Proofs
open Go.Sv Go Go.Tb Go.Pl Go.Ut Go.Mx
end Go.Proofs
namespace Go.Dt
open Go
abbrev C2:=Nat->Nat->Rat
def aH(f:Nat->Rat):Nat->Rat
 | 0=>0
 | k+1=>aH f k+f k
theorem aQ{f g:Nat->Rat}:∀n,(∀i,i<n->f i=g i)->aH f n=aH g n
 | 0,_=>rfl
 | n+1,h=>by simp only[aH];rw[aQ n λi hi=>h i (by omega),h n (by omega)]
theorem gy{f:Nat->Rat}(n:Nat)(h:∀i,i<n->f i=0):aH f n=0:=by
 induction n with
 | zero=>rfl
 | succ n ih=>simp only[aH];rw[ih λi hi=>h i (by omega),h n (by omega)];grind
theorem js(f g:Nat->Rat):∀n,aH (λi=>f i+g i) n=aH f n+aH g n
 | 0=>by simp only[aH];grind
 | n+1=>by simp only[aH];rw[js f g n];grind
theorem jm(c:Rat)(f:Nat->Rat):∀n,aH (λi=>c*f i) n=c*aH f n
 | 0=>by simp only[aH];grind
 | n+1=>by simp only[aH];rw[jm c f n];grind
theorem xK(f:Nat->Rat):∀n,aH (λi => -f i) n = -aH f n
 | 0=>by simp only[aH];grind
 | n+1=>by simp only[aH];rw[xK f n];grind
theorem cu{f:Nat->Rat}{p:Nat}:∀n,p<n->(∀i,i<n->i≠p->f i=0)->aH f n=f p
 | n+1,hp,h=>by
  simp only[aH];by_cases e:p=n
  ·subst e;rw[gy p λi hi=>h i (by omega) (by omega)];grind
  ·rw[cu n (by omega) λi hi=>h i (by omega),h n (by omega) (λq=>e q.symm)];grind
theorem Dv{f:Nat->Rat}{p q:Nat}(ac:p<q):∀n,q<n->(∀i,i<n->i≠p->i≠q->f i=0)->aH f n=f p+f q
 | n+1,hq,h=>by
  simp only[aH];by_cases e:q=n
  ·subst e;rw[cu (p:=p) q ac λi hi aa=>h i (by omega) aa (by omega)]
  ·rw[Dv ac n (by omega) λi hi=>h i (by omega),h n (by omega) (by omega) (λq=>e q.symm)];grind
theorem qJ(f:Nat->Nat->Rat)(m:Nat):∀n,aH (λi=>aH (λj=>f i j) m) n=aH (λj=>aH (λi=>f i j) n) m
 | 0=>by simp only[aH];exact(gy m λj _=>rfl).symm
 | n+1=>by simp only[aH];rw[qJ f m n,<-js]
def sg(i:Nat):Rat:=if i % 2=1 then -1 else 1
theorem H6(i:Nat):sg (i+1) = -sg i:=by
 unfold sg;by_cases h:i % 2=1
 ·rw[if_pos h,if_neg (by omega)];grind
 ·rw[if_neg h,if_pos (by omega)]
def ahb(A:C2)(i:Nat):C2:=λr c=>A (if r<i then r else r+1) (c+1)
def det:Nat->C2->Rat
 | 0,_=>1
 | n+1,A=>aH (λi=>sg i*A i 0*det n (ahb A i)) (n+1)
def apY(A:C2)(p:Nat)(v:Nat->Rat):C2:=λr c=>if r=p then v c else A r c
def aqd(A:C2)(p q:Nat):C2:=λr c=>if r=p then A q c else if r=q then A p c else A r c
/-! columns -/
def ab8(A:C2)(p:Nat)(v:Nat->Rat):C2:=λr c=>if c=p then v r else A r c
def arD(n:Nat)(A:C2)(x:Nat->Rat)(r:Nat):Rat:=aH (λc=>A r c*x c) n
end Go.Dt
namespace Go.Dt
open Go
theorem jY(f g:Nat->Rat):∀n,aH (λi=>f i - g i) n=aH f n - aH g n
 | 0=>by simp only[aH];grind
 | n+1=>by simp only[aH];rw[jY f g n];grind
theorem uX(c:Rat)(f:Nat->Rat):∀n,aH (λi=>f i*c) n=aH f n*c
 | 0=>by simp only[aH];grind
 | n+1=>by simp only[aH];rw[uX c f n];grind
theorem tq{f:Nat->Rat}{m:Nat}:∀n,m<=n->(∀i,m<=i->i<n->f i=0)->aH f n=aH f m
 | 0,h,_=>by rw[show m=0 by omega]
 | n+1,h,hz=>by
  by_cases e:m=n+1
  ·rw[e]
  ·simp only[aH];rw[tq n (by omega) λi hi ae=>hz i hi (by omega),hz n (by omega) (by omega)];grind
def ut(M:C2)(j c:Nat):Rat:=if j<=c then M j c else 0
def upM(k:Nat)(M:C2):C2:=λi c=>if c<i∧c<k then 0 else M i c
def sgn(ab:Bool):Rat:=if ab=true then -1 else 1
structure LuI(n:Nat)(A:C2)(k:Nat)(M:C2)(ord:Nat->Nat)(ab:Bool):Prop where
 lt:∀i,i<n->ord i<n
 inj:∀i j,i<n->j<n->ord i=ord j->i=j
 sur:∀r,r<n->∃i,i<n∧ord i=r
 eq:∀i c,i<n->c<n->A (ord i) c=aH (λj=>M i j*ut M j c) (min i k)+(if i<k then ut M i c else if c<k then 0 else M i c)
 piv:∀j,j<k->M j j≠0
 det:Dt.det n (upM k M)=sgn ab*Dt.det n A
def elim(M:C2)(k:Nat):C2:=λi c=>if i<=k∨c<k then M i c else if c=k then M i k / M k k else M i c - M k c*(M i k / M k k)
def mulL(n:Nat)(A:C2)(x:Nat->Rat)(c:Nat):Rat:=aH (λr=>x r*A r c) n
theorem Ac{f:Nat->Rat}:∀{n:Nat} {ord:Nat->Nat},(∀i,i<n->ord i<n)->(∀i j,i<n->j<n->ord i=ord j->i=j)->aH (λi=>f (ord i)) n=aH f n:=λ{n} {ord} hl hi=>by
 have a:aH (λi=>aH (λr=>if ord i=r then f r else 0) n) n=aH (λi=>f (ord i)) n:=aQ n λi h=>by rw[cu (p:=ord i) n (hl i h) λr _ aa=>if_neg (λq=>aa q.symm),if_pos rfl]
 rw[<-a,qJ];have sur:∀r,r<n->∃i,i<n∧ord i=r:=by
  have count:∀(m:Nat) (o:Nat->Nat),(∀i,i<m->o i<m)->(∀i j,i<m->j<m->o i=o j->i=j)->∀r,r<m->∃i,i<m∧o i=r:=λm=>by
   induction m with
   | zero=>intro _ _ _ r hr;omega
   | succ m ih =>
    intro o h1 h2 r hr;by_cases e:o m=m
    ·by_cases er:r=m
     ·exact⟨m,by omega,by rw[er];exact e⟩
     ·obtain⟨i,hi,q⟩:=ih o (λi hi=>by
       have:=h1 i (by omega);have:o i≠m:=λw=>by have:=h2 i m (by omega) (by omega) (by rw[w,e]);omega
       omega) (λi j hi hj=>h2 i j (by omega) (by omega)) r (by omega)
      exact⟨i,by omega,q⟩
    ·have hm:=h1 m (by omega);obtain⟨g1,g2⟩:(∀i,i<m->(if o i=m then o m else o i)<m)∧(∀i j,i<m->j<m->(if o i=m then o m else o i)=(if o j=m then o m else o j)->i=j):=by
      refine⟨λi hi=>?_,λi j hi hj w=>?_⟩
      ·have:=h1 i (by omega);split<;>omega
      ·by_cases a1:o i=m<;>by_cases a2:o j=m
       ·exact h2 i j (by omega) (by omega) (by omega)
       ·rw[if_pos a1,if_neg a2]at w;have:=h2 m j (by omega) (by omega) w;omega
       ·rw[if_neg a1,if_pos a2]at w;have:=h2 i m (by omega) (by omega) w;omega
       ·rw[if_neg a1,if_neg a2]at w;exact h2 i j (by omega) (by omega) w
     by_cases er:r=m
     ·subst er;refine Classical.byContradiction λno=>?_;have ad:∀i,i<r+1->o i≠r:=λi hi w=>no ⟨i,hi,w⟩;obtain⟨i,hi,w⟩:=ih o (λi hi=>by have:=h1 i (by omega);have:=ad i (by omega);omega) (λi j hi hj=>h2 i j (by omega) (by omega)) (o r) (by have:=ad r (by omega);omega);have:=h2 i r (by omega) (by omega) w;omega
     ·obtain⟨i,hi,w⟩:=ih (λi=>if o i=m then o m else o i) g1 g2 r (by omega);by_cases a1:o i=m
      ·simp only[if_pos a1]at w;exact⟨m,by omega,w⟩
      ·simp only[if_neg a1]at w;exact⟨i,by omega,w⟩
  exact count n ord hl hi
 refine aQ n λr hr=>?_;obtain⟨i,h,rfl⟩:=sur r hr;rw[cu (p:=i) n h λj hj aa=>if_neg (λq=>aa (hi j i hj h q)),if_pos rfl]
def tl(f:Nat->Rat)(i n:Nat):Rat:=aH (λc=>if i<c then f c else 0) n
theorem Pk(f:Nat->Rat){i n:Nat}(h:i<=n):aH (λj=>if j<i then f j else 0) n=aH f i:=by rw[tq n h λj hj _=>if_neg (by omega)];exact aQ i λj hj=>if_pos hj
end Go.Dt

