/- A text of the prover's own. -/
import Derived.Test.YtnimjdcaajmfcaaGreatDoorVKb
import Derived.Test.YtnimjdcaajmfcaaGreatDoorVLr
open List renaming range->ayq,length_cons->awV,map_take->aAP,take_of_length_le->aAp,map_cons->aw6,sum_cons->aBE,map_set->aAq,map_map->aBC,map_congr_left->aBD
set_option maxRecDepth 10000
namespace Go.Mx
open Go Go.Sv Go.Pl Go.Proofs Go.Tb Go.Ut
def tW(a b:List Rat)(y:Rat):List Rat:=(ayq a.length).map λj=>gt a j - gt b j*y
def mh(h:List Rat)(c:Nat):List Rat:=h.map λx=>x / gt h c
def BK(m:List (List Rat))(k t i:Nat):List Rat:=if i=k then gt m t else if i=t then gt m k else gt m i
def gA(m:List (List Rat))(k t c:Nat):List (List Rat):=(ayq m.length).map λi =>
 if i=k then mh (gt m t) c else tW (BK m k t i) (mh (gt m t) c) (gt (BK m k t i) c)
def tm(m:List (List Rat))(c k t:Nat):Prop:=k<=t∧t<m.length∧gt (gt m t) c≠0∧∀i,k<=i->i<t->gt (gt m i) c=0
def T7(m:List (List Rat))(c k:Nat):Prop:=∀i,k<=i->i<m.length->gt (gt m i) c=0
open Classical in
noncomputable def nQ(s:List (List Rat) × List Nat)(c:Nat):List (List Rat) × List Nat :=
 if s.2.length<s.1.length then
  if h:∃t,tm s.1 c s.2.length t then(gA s.1 s.2.length h.choose c,s.2++[c]) else s
 else s
theorem HZ{m:List (List Rat)}{c k t t':Nat}(h:tm m c k t)(h':tm m c k t'):t=t':=by
 rcases Nat.lt_trichotomy t t' with g | g | g
 ·exact absurd (h'.2.2.2 t h.1 g) h.2.2.1
 ·exact g
 ·exact absurd (h.2.2.2 t' h'.1 g) h'.2.2.1
theorem u7{s:List (List Rat) × List Nat}{c t:Nat}(hl:s.2.length<s.1.length)(h:tm s.1 c s.2.length t):nQ s c=(gA s.1 s.2.length t c,s.2++[c]):=by have hx:∃t,tm s.1 c s.2.length t:=⟨t,h⟩;unfold nQ;rw[if_pos hl,dif_pos hx,HZ hx.choose_spec h]
theorem LB{s:List (List Rat) × List Nat}{c:Nat}(h:T7 s.1 c s.2.length):nQ s c=s:=by have hx:¬∃t,tm s.1 c s.2.length t:=λ⟨t,g⟩=>g.2.2.1 (h t g.1 g.2.1);unfold nQ;rw[dif_neg hx];split<;>rfl
theorem wT{s:List (List Rat) × List Nat}{c:Nat}(h:¬s.2.length<s.1.length):nQ s c=s:=by unfold nQ;rw[if_neg h]
noncomputable def bU(a:List (List Rat)):Nat->List (List Rat) × List Nat
 | 0=>(a,[])
 | c+1=>nQ (bU a c) c
theorem p6{a:List (List Rat)}{c:Nat}(h:¬(bU a c).2.length<(bU a c).1.length):∀d,bU a (c+d)=bU a c
 | 0=>rfl
 | d+1=>by show nQ (bU a (c+d)) (c+d)=_;rw[p6 h d,wT h]
structure Tw(n w W:Nat)(m:List (List Rat)):Prop where
 l:m.length=n
 r:∀i,i<n->(gt m i).length=w
 q:∀i j,i<n->j<w->qw W (gt (gt m i) j)
theorem aV{α:Type}[Inhabited α](f:Nat->α){n i:Nat}(h:i<n):gt ((ayq n).map f) i=f i:=by simp[gt,h]
@[simp] theorem Fw(a b:List Rat)(y:Rat):(tW a b y).length=a.length:=by simp[tW]
@[simp] theorem af0(h:List Rat)(c:Nat):(mh h c).length=h.length:=by simp[mh]
theorem pW{a b:List Rat}{y:Rat}{j:Nat}(h:j<a.length):gt (tW a b y) j=gt a j - gt b j*y:=by unfold tW;rw[aV _ h]
theorem zj{a:List Rat}{c j:Nat}(h:j<a.length):gt (mh a c) j=gt a j / gt a c:=by unfold mh;rw[jr _ h]
@[simp] theorem kK(m:List (List Rat))(k t c:Nat):(gA m k t c).length=m.length:=by simp[gA]
theorem iF{m:List (List Rat)}{k t c i:Nat}(h:i<m.length):gt (gA m k t c) i=if i=k then mh (gt m t) c else tW (BK m k t i) (mh (gt m t) c) (gt (BK m k t i) c):=by unfold gA;rw[aV _ h]
theorem Pk{n w W:Nat}{m:List (List Rat)}(h:Tw n w W m){k t i:Nat}(hk:k<n)(ht:t<n)(hi:i<n):(BK m k t i).length=w∧∀j,j<w->qw W (gt (BK m k t i) j):=by
 unfold BK;split
 ·exact⟨h.r t ht,λj hj=>h.q t j ht hj⟩
 ·split
  ·exact⟨h.r k hk,λj hj=>h.q k j hk hj⟩
  ·exact⟨h.r i hi,λj hj=>h.q i j hi hj⟩
theorem K6{n w W:Nat}{m:List (List Rat)}(h:Tw n w W m){t c:Nat}(ht:t<n)(hc:c<w)(hW:1<=W):(mh (gt m t) c).length=w∧∀j,j<w->qw (2*W) (gt (mh (gt m t) c) j):=by refine⟨by simp[h.r t ht],λj hj=>?_⟩;rw[zj (by rw[h.r t ht];exact hj)];exact ax (mF (h.q t j ht hj) (h.q t c ht hc) hW) (by omega)
theorem acj{w W:Nat}{a b:List Rat}{y:Rat}(la:a.length=w)(ha:∀j,j<w->qw W (gt a j))(hb:∀j,j<w->qw (2*W) (gt b j))(hy:qw W y)(hW:1<=W):∀j,j<w->qw (5*W) (gt (tW a b y) j):=λj hj=>by rw[pW (by omega)];exact ax (qd (ha j hj) (cy (hb j hj) hy (by omega))) (by omega)
theorem Tw.step{n w W:Nat}{m:List (List Rat)}(h:Tw n w W m){k t c:Nat}(hk:k<n)(ht:t<n)(hc:c<w)(hW:1<=W):Tw n w (5*W) (gA m k t c) where
 l:=by rw[kK,h.l]
 r:=λi hi=>by
  rw[iF (by rw[h.l];exact hi)];split
  ·exact(K6 h ht hc hW).1
  ·rw[Fw];exact(Pk h hk ht hi).1
 q:=λi j hi hj=>by
  rw[iF (by rw[h.l];exact hi)];split
  ·exact ax ((K6 h ht hc hW).2 j hj) (by omega)
  ·have s:=Pk h hk ht hi;exact acj s.1 s.2 (K6 h ht hc hW).2 (s.2 c hc) hW j hj
theorem uv{a:List (List Rat)}{n w:Nat}(h:Tw n w 2200 a):∀c,c<=w->Tw n w (2200*5^(bU a c).2.length) (bU a c).1∧(bU a c).2.length<=n
 | 0,_=>⟨by simpa[bU]using h,by simp[bU]⟩
 | c+1,hc=>by
  obtain⟨ih,il⟩:=uv h c (by omega);show Tw n w (2200*5^(nQ (bU a c) c).2.length) (nQ (bU a c) c).1∧(nQ (bU a c) c).2.length<=n;by_cases hl:(bU a c).2.length<(bU a c).1.length
  ·by_cases hp:∃t,tm (bU a c).1 c (bU a c).2.length t
   ·obtain⟨t,hp⟩:=hp;rw[u7 hl hp];have hn:=ih.l;have:=ih.step (k:=(bU a c).2.length) (t:=t) (c:=c) (by omega) (by have:=hp.2.1;omega) (by omega) (by have:=Nat.pow_pos (n:=(bU a c).2.length) (show 0<5 by omega);omega);refine⟨?_,by simp;omega⟩;simp only[List.length_append,awV,List.length_nil,Nat.pow_succ,Nat.zero_add]
    rwa [show 2200*(5^(bU a c).2.length*5)=5*(2200*5^(bU a c).2.length) by omega]
   ·have:nQ (bU a c) c=bU a c:=by unfold nQ;rw[dif_neg hp];split<;>rfl
    rw[this];exact⟨ih,il⟩
  ·rw[wT hl];exact⟨ih,il⟩
theorem NQ{e n:Nat}(h:e<=n)(hn:n<=7):2200*5^e<=171875000:=by have:5^e<=5^7:=Nat.pow_le_pow_right (by omega) (by omega);omega
theorem AH{α:Type}(k i:Nat)(f:α->SV)(l:List α):SV.aY k ((l.map f).take i)=(l.take i).any λx=>(f x).cD k:=by rw[<-aAP,gU]
theorem zM{α:Type}(i:Nat)(f:α->SV)(l:List α):SV.bF ((l.map f).take i)=(l.take i).all λx=>(f x).pure:=by rw[<-aAP,wY]
theorem Io{α:Type}(k i:Nat)(f:α->SV)(l:List α):SV.j3 k ((l.map f).take i)=(l.take i).all λx=>(f x).lt k:=by rw[<-aAP,kA]
attribute [simp] gU AH zM Io
theorem oY{α:Type}[Inhabited α](f:α->SV){l:List α}{i:Nat}(h:i<l.length):(l.map f).take (i+1)=(l.map f).take i++[f (gt l i)]:=by rw[<-aAP,hO h];simp
end Go.Mx
namespace Go.Proofs
open Go.Sv Go Go.Tb Go.Pl Go.Ut Go.Mx
theorem Ht(a b:List Rat)(y:Rat)(hl:b.length=a.length)(hn:a.length<=1048576)(ha:∀j,j<a.length->j4 (gt a j))(hb:∀j,j<a.length->j4 (gt b j))(hy:j4 y)(hp:∀j,j<a.length->j4 (gt b j*y)) :
  aE Tryz.prog 102 [.ro (a.map aZ),.ro (b.map aZ),aZ y] (.ro ((tW a b y).map aZ)):=by
 refine aj Tryz.func102 rfl (by simp) (λC hC=>?_);simp;refine aa.nil 7 4 rfl ?_;refine aa.bB (ι:=Nat) (λi=>⟨34,[(0,.ro (a.map aZ)),(1,.ro (b.map aZ)),(5,.ptr 0 0 0),(7,.view 1 0 i),(8,iv i)],[some ⟨4,[aZ y],false⟩,some ⟨4,((tW a b y).take i).map aZ,false⟩]⟩)
  (λi=>i<=a.length) (λi=>a.length - i) 0 (by simp) ?_ ?_
 ·simp[aP,hC]
 ·rintro i hi;by_cases aR:i<a.length
  ·have q1:=eh aR;have q2:=eh (show i<b.length by omega);simp(disch:=omega)[aR];repeat refine awG ?_
   refine aa.jB (.d 6<|.qs [0,1,2,3,4]<|.p 5<|.b ( .l 7 [2]<|.nil )) (by kernel_rfl) (by kernel_rfl) (by simp) ?_;simp(disch:=omega)[aR,hl,q2];repeat refine awG ?_
   refine ff (lF _ _ (hb i aR) hy) (by simp) ?_;simp(disch:=omega)[];repeat refine awG ?_
   refine aa.jB (.d 6<|.qs [0,1,2,3,4]<|.p 5<|.b ( .l 7 [3]<|.nil )) (by kernel_rfl) (by kernel_rfl) (by simp) ?_;simp(disch:=omega)[aR,q1];repeat refine awG ?_
   refine ff (KX _ _ (ha i aR) (hp i aR)) (by simp) ?_;simp(disch:=omega)[aD];repeat refine awG ?_
   exact⟨⟨by simp[hC],by omega⟩,i+1,by omega,by omega,Le.dE (by simp(disch:=omega)[aP,hC,oY aZ (show i<(tW a b y).length by simpa using aR),pW])⟩
  ·obtain rfl:i=a.length:=by omega
   have e:((tW a b y).map aZ).take a.length=(tW a b y).map aZ:=aAp (by simp);simp[e]
theorem HV{m:List (List Rat)}{n w W k t c:Nat}(h:Tw n w W m)(hn:n<=1048576)(hw:w<=1048576)(h1:1<=W)(h2:W<=1000000000)(hk:k<n)(ht:t<n)(hc:c<w)(hz:gt (gt m t) c≠0) :
  aE Tryz.prog 131 [.ro (m.map iu),iv k,iv t,iv c] (.ro ((gA m k t c).map iu)):=by
 have hl:=h.l;have lt:=oZ (l:=m) (i:=t) (by omega);have lk:=oZ (l:=m) (i:=k) (by omega);have wt:=h.r t ht;have lc:=eh (l:=gt m t) (i:=c) (by omega);have ow:=K6 h ht hc h1;refine aj Tryz.func131 rfl (by simp) (λC hC=>?_);simp(disch:=omega)[hl,lt];repeat refine awG ?_
 refine aa.nil 10 4 rfl ?_;simp;refine aa.bB (ι:=Nat) (λi=>⟨76,[(0,.ro (m.map iu)),(1,iv k),(2,iv t),(3,iv c),(9,.ro ((gt m t).map aZ)),(10,.view 0 0 i),(11,iv i)],[some ⟨4,((mh (gt m t) c).take i).map aZ,false⟩]⟩)
  (λi=>i<=w) (λi=>w - i) 0 (by simp) ?_ ?_
 ·simp[aP,hC]
 ·rintro i hi;by_cases aR:i<w
  ·have q1:=eh (l:=gt m t) (i:=i) (by omega);simp(disch:=omega)[aR,wt];repeat refine awG ?_
   refine aa.jB (.d 9<|.qs [0,1,2,3,4,5,6,7]<|.p 8<|.b ( .l 10 [1]<|.nil )) (by kernel_rfl) (by kernel_rfl) (by simp) ?_;simp(disch:=omega)[aR,wt,q1,lc];repeat refine awG ?_
   refine ff (S8 _ _ (aq (h.q t i ht aR) (by omega)) (aq (h.q t c ht hc) (by omega)) hz) (by simp) ?_;simp(disch:=omega)[wt,aD];repeat refine awG ?_
   have e:=oY aZ (l:=mh (gt m t) c) (i:=i) (by simp;omega);rw[zj (by omega)]at e;exact⟨⟨by simp[hC],by omega⟩,i+1,by omega,by omega,Le.dE (by simp(disch:=omega)[aP,hC,e])⟩
  ·obtain rfl:i=w:=by omega
   have e:((mh (gt m t) c).map aZ).take i=(mh (gt m t) c).map aZ:=aAp (by simp;omega);simp(disch:=omega)[wt,e];repeat refine awG ?_
   refine aa.uO 0 rfl (by simp) ?_;have sq:j6 0 ((mh (gt m t) c).map aZ) ((mh (gt m t) c).map aZ)=(mh (gt m t) c).map aZ:=dh _ _ _ (by simp);simp[lZ,aX,e];refine aa.nil 13 1 rfl ?_;simp;refine aa.bB (ι:=Nat) (λj=>⟨76,[(0,.ro (m.map iu)),(1,iv k),(2,iv t),(3,iv c),(10,.ro ((mh (gt m t) c).map aZ)),(13,.view 1 0 j),(14,iv j)],[some ⟨4,(mh (gt m t) c).map aZ,true⟩,some ⟨1,((gA m k t c).take j).map iu,false⟩]⟩)
    (λj=>j<=n) (λj=>n - j) 0 (by simp) ?_ ?_
   ·simp[aP,hC];omega
   ·rintro j hj;by_cases ab:j<n
    ·have lj:=oZ (l:=m) (i:=j) (by omega);have wk:=h.r k hk;have wj:=h.r j ab;have e1:=oY iu (l:=gA m k t c) (i:=j) (by simp;omega);rw[iF (by omega)]at e1;by_cases jk:j=k
     ·subst jk;rw[if_pos rfl]at e1;by_cases jt:j=t
      ·subst jt;simp(disch:=omega)[ab,hl,lj,aD];repeat refine awG ?_
       exact⟨⟨by simp[hC],by omega⟩,j+1,by omega,by omega,Le.dE (by simp(disch:=omega)[aP,hC,e1])⟩
      ·have ae:¬(j:Int)=t:=by omega
       simp(disch:=omega)[ab,hl,lj,aD,ae];repeat refine awG ?_
       exact⟨⟨by simp[hC],by omega⟩,j+1,by omega,by omega,Le.dE (by simp(disch:=omega)[aP,hC,e1])⟩
     ·have ah:¬(j:Int)=k:=by omega
      have sw:=Pk h hk ht ab;rw[if_neg jk]at e1;have ad:=eh (l:=BK m k t j) (i:=c) (by omega);have wo:=Ht (BK m k t j) (mh (gt m t) c) (gt (BK m k t j) c) (by omega) (by omega) (λx hx=>aq (sw.2 x (by omega)) (by omega)) (λx hx=>aq (ow.2 x (by omega)) (by omega)) (aq (sw.2 c hc) (by omega))
       (λx hx=>aq (cy (ow.2 x (by omega)) (sw.2 c hc) (by omega)) (by omega))
      by_cases jt:j=t
      ·subst jt;have es:BK m k j j=gt m k:=by unfold BK;rw[if_neg jk,if_pos rfl]
       rw[es]at ad wo e1;simp(disch:=omega)[ab,hl,lj,lk,ah,ad];repeat refine awG ?_
       refine awI (wo) ?_;simp(disch:=omega)[aD];repeat refine awG ?_
       exact⟨⟨by simp[hC],by omega⟩,j+1,by omega,by omega,Le.dE (by simp(disch:=omega)[aP,hC,e1])⟩
      ·have ae:¬(j:Int)=t:=by omega
       have es:BK m k t j=gt m j:=by unfold BK;rw[if_neg jk,if_neg jt]
       rw[es]at ad wo e1;simp(disch:=omega)[ab,hl,lj,ah,ae,ad];repeat refine awG ?_
       refine awI (wo) ?_;simp(disch:=omega)[aD];repeat refine awG ?_
       exact⟨⟨by simp[hC],by omega⟩,j+1,by omega,by omega,Le.dE (by simp(disch:=omega)[aP,hC,e1])⟩
    ·obtain rfl:j=n:=by omega
     have e1:((gA m k t c).map iu).take j=(gA m k t c).map iu:=aAp (by simp;omega);simp(disch:=omega)[hl,e1];repeat refine awG ?_
def upP(m:List (List Rat))(c n j:Nat)(x:Int):Prop:=(x = -1∧∀i,j<=i->i<n->gt (gt m i) c=0)∨∃t:Nat,x=t∧j<=t∧t<n∧gt (gt m t) c≠0∧∀i,j<=i->i<t->gt (gt m i) c=0
def cv(i:Nat):SV:=iv i
@[simp] theorem aix(i:Nat):cv i=iv i:=rfl
theorem x7(a:List (List Rat))(n w:Nat)(h:Tw n w 2200 a)(hn:n<=7)(hw:w<=40)(he:wide a=w):aE Tryz.prog 88 [.ro (a.map iu)] (.bM [.ro ((bU a w).1.map iu),.ro ((bU a w).2.map cv)]):=by
 have hl:=h.l;have gw:=Pq a (by omega);rw[he]at gw;refine aj Tryz.func88 rfl (by simp) (λC hC=>?_);simp(disch:=omega)[hl];repeat refine awG ?_
 refine awI (gw) ?_;simp(disch:=omega)[];repeat refine awG ?_
 refine aa.uO 0 rfl (by simp) ?_;have sq:j6 0 (a.map iu) (a.map iu)=a.map iu:=dh _ _ _ (by simp);simp[lZ,aX];refine aa.nil 5 1 rfl ?_;simp;refine aa.bB (ι:=Nat) (λc=>⟨63,[(4,.ro ((bU a c).1.map iu)),(5,.view 1 0 (bU a c).2.length),(6,iv w),(7,iv c)],[some ⟨1,a.map iu,true⟩,some ⟨1,(bU a c).2.map cv,false⟩]⟩)
  (λc=>c<=w) (λc=>w - c) 0 (by simp) ?_ ?_
 ·simp[aP,hC,bU,<-hl,aAp]
 ·rintro c hc;obtain⟨tw,le⟩:=uv h c hc;have nx:bU a (c+1)=nQ (bU a c) c:=rfl;have full:=p6 (a:=a) (c:=c);generalize hs:bU a c=s at *;have sl:=tw.l;have tk:(s.2.map cv).take s.2.length=s.2.map cv:=aAp (by simp);have p5:=NQ le hn;have p1:1<=2200*5^s.2.length:=by have:=Nat.pow_pos (n:=s.2.length) (show 0<5 by omega);omega
  by_cases af:c<w
  ·by_cases hf:s.2.length<n
   ·simp(disch:=omega)[af,hf,sl];repeat refine awG ?_
    refine aa.bB (ι:=Nat × Int) (λ⟨j,x⟩=>⟨63,[(4,.ro (s.1.map iu)),(5,.view 1 0 s.2.length),(6,iv w),(7,iv c),(8,iv s.2.length),(9,iv x),(10,iv ((j:Int) - 1))],[some ⟨1,a.map iu,true⟩,some ⟨1,s.2.map cv,false⟩]⟩)
     (λ⟨j,x⟩=>s.2.length<=j∧j<=n∧upP s.1 c n j x) (λ⟨j,x⟩=>j) (n, -1) ⟨by omega,by omega,.inl ⟨rfl,λi h1 h2=>by omega⟩⟩ ?_ ?_
    ·simp(disch:=omega)[aP,hC,aD]
    ·rintro⟨j,x⟩ ⟨h1,h2,h3⟩;by_cases hj:s.2.length<j
     ·obtain⟨j,rfl⟩:∃i,j=i+1:=⟨j - 1,by omega⟩;have e1:((j+1:Nat):Int) - 1=j:=by omega
      have al:s.2.length<=j:=by omega
      have lj:=oZ (l:=s.1) (i:=j) (by omega);have wj:=tw.r j (by omega);have lc:=eh (l:=gt s.1 j) (i:=c) (by omega);simp only[e1];simp(disch:=omega)[al,lj,sl,lc];repeat refine awG ?_
      refine awI (E5 (gt (gt s.1 j) c)) ?_;simp(disch:=omega)[aD,Int.sign_eq_zero_iff_zero,Rat.num_eq_zero];repeat refine awG ?_
      refine⟨λz=>⟨j,j,⟨by omega,by omega,.inr ⟨j,rfl,by omega,by omega,z,λi g1 g2=>by omega⟩⟩,by omega,Le.dE (by simp(disch:=omega)[aP,hC])⟩,λz=>⟨j,x,⟨by omega,by omega,?_⟩,by omega,Le.dE (by simp(disch:=omega)[aP,hC])⟩⟩;rcases h3 with⟨x1,x2⟩ | ⟨t,rfl,t1,t2,t3,t4⟩
      ·refine .inl ⟨x1,λi g1 g2=>?_⟩;by_cases ij:i=j
       ·rw[ij];exact z
       ·exact x2 i (by omega) g2
      ·refine .inr ⟨t,rfl,by omega,t2,t3,λi g1 g2=>?_⟩;by_cases ij:i=j
       ·rw[ij];exact z
       ·exact t4 i (by omega) g2
     ·obtain rfl:j=s.2.length:=by omega
      have e1:¬(s.2.length:Int)<=(s.2.length:Int) - 1:=by omega
      rcases h3 with⟨rfl,x2⟩ | ⟨t,rfl,t1,t2,t3,t4⟩
      ·rw[LB (λi g1 g2=>x2 i g1 (by omega))]at nx;simp(disch:=omega)[e1];repeat refine awG ?_
       exact⟨c+1,by omega,by omega,by rw[nx];exact Le.dE (by simp(disch:=omega)[aP,hC,aD])⟩
      ·have e2:¬((t:Int)<0):=by omega
       rw[u7 (t:=t) (by omega) ⟨t1,by omega,t3,t4⟩]at nx;simp(disch:=omega)[e1,e2];repeat refine awG ?_
       refine awI (HV tw (by omega) (by omega) p1 (by omega) hf t2 af t3) ?_;simp(disch:=omega)[aD];repeat refine awG ?_
       refine⟨⟨by simp[hC],by omega⟩,c+1,by omega,by omega,?_⟩;rw[nx];exact Le.dE (by simp(disch:=omega)[aP,hC])
   ·have e:=full (by omega) (w - c);rw[show c+(w - c)=w by omega]at e;rw[e];simp(disch:=omega)[af,hf,sl,tk];repeat refine awG ?_
  ·obtain rfl:c=w:=by omega
   rw[hs];simp[tk]
end Go.Proofs
namespace Go.Mx
open Go Go.Sv Go.Pl Go.Proofs Go.Tb Go.Ut
def Lt(r o:List Rat)(y:Rat)(i:Nat):List Rat:=(ayq r.length).map λj=>if j<i then gt r j - gt o j*y else gt r j
@[simp] theorem aes(r o:List Rat)(y:Rat)(i:Nat):(Lt r o y i).length=r.length:=by simp[Lt]
theorem Ks{r o:List Rat}{y:Rat}{i j:Nat}(h:j<r.length):gt (Lt r o y i) j=if j<i then gt r j - gt o j*y else gt r j:=by unfold Lt;rw[aV _ h]
theorem Yx(r o:List Rat)(y:Rat):Lt r o y 0=r:=bV (by simp) λj h=>by rw[Ks (by simpa using h)];simp
theorem adb(r o:List Rat)(y:Rat):Lt r o y r.length=tW r o y:=bV (by simp) λj h=>by
 have h:j<r.length:=by simpa using h
 rw[Ks h,pW h,if_pos h]
theorem X4(r o:List Rat):tW r o 0=r:=bV (by simp) λj h=>by rw[pW (by simpa using h),Rat.mul_zero,Rat.sub_eq_add_neg,Rat.neg_zero,Rat.add_zero]
end Go.Mx
namespace Go.Proofs
open Go.Sv Go Go.Tb Go.Pl Go.Ut Go.Mx
end Go.Proofs
namespace Go.Tb
open Go Go.Sv Go.Pl Go.Proofs
def EE:Pt:=.sl .str
theorem Eo{α:Type}{f:α->Nat}:∀{l:List α} {x:α},x∈l->f x<=(l.map f).sum
 | y::l,x,h=>by
  simp only[aw6,aBE];rcases List.mem_cons.1 h with rfl | h
  ·omega
  ·have:=Eo (f:=f) h;omega
theorem EK{α:Type}{f:α->Nat}(hf:∀x,1<=f x):∀{l:List α},l.length<=(l.map f).sum
 | []=>by simp
 | y::l=>by have:=EK hf (l:=l);have:=hf y;simp only[aw6,aBE,awV];omega
theorem Px{x:EE.T}(h:EE.bk x<=1048576):Zw (x:List ByteArray):=by
 have h':(List.map Pt.str.bk (x:List ByteArray)).sum+1<=1048576:=h;refine⟨?_,λs hs=>?_⟩
 ·have:=EK (f:=Pt.str.bk) (λy=>by show 1<=ByteArray.size y+1;omega) (l:=(x:List ByteArray));exact Nat.le_trans this (by omega)
 ·have:Pt.str.bk s<=_:=Eo (f:=Pt.str.bk) hs;have e:Pt.str.bk s=s.size+1:=rfl;omega
end Go.Tb
namespace Go.Mx
open Go Go.Sv Go.Pl Go.Proofs Go.Tb Go.Ut
def vw(w i:Nat):SV:=.view (i+1) 0 w
def ak8(w:Nat)(π:List Nat):List SV:=π.map (vw w)
def eH(C:List (List Rat)):aC:=C.map λr=>some ⟨4,r.map aS,false⟩
def mxT(w:Nat)(π:List Nat)(C:List (List Rat))(tl:aC):aC:=some ⟨1,ak8 w π,false⟩::(eH C++tl)
@[simp] theorem aiX(C:List (List Rat)):(eH C).length=C.length:=by simp[eH]
theorem sc(k:Nat)(C:List (List Rat)):eU k (eH C)=true:=by simp[eU,eH]
theorem qa(k:Nat)(A B:aC):eU k (A++B)=(eU k A&&eU k B):=by simp[eU]
theorem QY{A B:aC}{i:Nat}(h:i<A.length):aA (A++B) i=aA A i:=by
 induction A generalizing i with
 | nil=>simp at h
 | cons x A ih=>cases i with
  | zero=>rfl
  | succ i=>simpa[aA]using ih (by simpa using h)
theorem oW{A B:aC}{i n:Nat}(h:A.length=n):aA (A++B) (n+i)=aA B i:=by
 subst h
 induction A with
 | nil=>simp
 | cons x A ih=>simp only[List.cons_append,awV,show A.length+1+i=A.length+i+1 by omega,aA];exact ih
theorem qW{A B:aC}{i n:Nat}{y:Option cJ}(h:A.length=n):aX (A++B) (n+i) y=A++aX B i y:=by subst h;rw[dL,dL,List.set_append_right _ _ (by omega)];simp
theorem fE{C:List (List Rat)}{tl:aC}{e:Nat}(h:e<C.length):aA (eH C++tl) e=some ⟨4,(gt C e).map aS,false⟩:=by
 rw[QY (by simpa using h)];unfold eH
 induction C generalizing e with
 | nil=>simp at h
 | cons x C ih=>cases e with
  | zero=>rfl
  | succ e=>simpa[aA,gt]using ih (by simpa using h)
theorem yV{C:List (List Rat)}{tl:aC}{e:Nat}{r:List Rat}(h:e<C.length):aX (eH C++tl) e (some ⟨4,r.map aS,false⟩)=eH (C.set e r)++tl:=by rw[dL,List.set_append_left _ _ (by simpa using h)];unfold eH;rw[aAq]
theorem mP(A:aC){B B':aC}(h:fj B B'):fj (A++B) (A++B'):=by
 induction A with
 | nil=>exact h
 | cons x A ih=>simpa[fj]using ih
structure Rep(n:Nat)(π:List Nat)(C:List (List Rat))(f:Nat->List Rat):Prop where
 lp:π.length=n
 lc:C.length=n
 b:∀i,i<n->gt π i<n
 inj:∀i j,i<n->j<n->gt π i=gt π j->i=j
 e:∀i,i<n->gt C (gt π i)=f i
def afa(w n i:Nat):List SV:=(ayq n).map λj=>if j<i then vw w j else .ro []
@[simp] theorem aeV(w n i:Nat):(afa w n i).length=n:=by simp[afa]
theorem pH(k:Nat)(C:List (List Rat)):eA k (eH C):=by
 unfold eH
 induction C with
 | nil=>trivial
 | cons x C ih=>exact⟨by simp,ih⟩
theorem nR{k:Nat}{A B:aC}(h:eA k A)(h':eA k B):eA k (A++B):=by
 induction A with
 | nil=>exact h'
 | cons x A ih=>cases x with
  | none=>exact ih h
  | some e=>exact⟨h.1,ih h.2⟩
def abk(r:List Rat)(c j:Nat):List Rat:=(ayq r.length).map λx=>if x<j then gt r x / gt r c else gt r x
@[simp] theorem aaX(r:List Rat)(c j:Nat):(abk r c j).length=r.length:=by simp[abk]
theorem cN{n:Nat}{R:List (List Rat)}{tl:aC}(h:R.length=n):aA (eH R++tl) n=aA tl 0:=oW (i:=0) (by simpa using h)
theorem xK{n:Nat}{R:List (List Rat)}{tl:aC}(h:R.length=n):aA (eH R++tl) (n+1)=aA tl 1:=oW (i:=1) (by simpa using h)
theorem cV{n:Nat}{R:List (List Rat)}{tl:aC}{y:Option cJ}(h:R.length=n):aX (eH R++tl) n y=eH R++aX tl 0 y:=qW (i:=0) (by simpa using h)
theorem BM{n:Nat}{R:List (List Rat)}{tl:aC}{y:Option cJ}(h:R.length=n):aX (eH R++tl) (n+1) y=eH R++aX tl 1 y:=qW (i:=1) (by simpa using h)
theorem tgC{n:Nat}{R:List (List Rat)}{tl:aC}(h:R.length=n):aA (eH R++tl) (n+2)=aA tl 2:=oW (i:=2) (by simpa using h)
theorem Pn(σ:Nat->Nat)(l:List Rat):dW σ (l.map aS)=l.map aS:=iU σ _ (by simp)
/-! the end: all rows are frozen -/
def auL(w:Nat)(R:List (List Rat))(j:Nat)(π:List Nat):List SV:=π.map λe=>if e<j then .ro ((gt R e).map aS) else vw w e
def rwN(R:List (List Rat))(j:Nat):aC:=(ayq R.length).map λe=>if e<j then none else some ⟨4,(gt R e).map aS,false⟩
theorem JL{k:Nat}{es:List SV}{α:Type}(f:α->SV)(l:List α):j6 k es (l.map f)=l.map λx=>k6 k es (f x):=by
 induction l with
 | nil=>rfl
 | cons x l ih=>simp[ih]
theorem zx:∀{M:aC} {k:Nat} {x:Option cJ},M[k]?=some x->aA M k=x
 | [],k,x,h=>by simp at h
 | y::M,0,x,h=>by simpa[aA]using h
 | y::M,k+1,x,h=>by simpa[aA]using zx (M:=M) (k:=k) (by simpa using h)
@[simp] theorem aiM(R:List (List Rat))(j:Nat):(rwN R j).length=R.length:=by simp[rwN]
end Go.Mx
namespace Go.Mx
open Go Go.Sv Go.Pl Go.Proofs Go.Tb Go.Ut
theorem lA{k:Nat}{es:List SV}(A B:aC):yy k es (A++B)=yy k es A++yy k es B:=by simp[yy]
theorem lM(A B:aC):ry (A++B)=ry A++ry B:=by simp[ry]
theorem OH(x:List Rat):kT (x.map aS)=x.map aS:=by
 induction x with
 | nil=>rfl
 | cons y x ih=>simp only[aw6,kT,ih];congr 1
theorem ve(C:List (List Rat)):ry (eH C)=eH C:=by unfold eH ry;rw[aBC];refine aBD λr _=>?_;simp[OH]
theorem Aw(k:Nat)(A B:aC):rH k (A++B)=rH k A++rH k B:=by simp[rH]
theorem Sa(k:Nat)(x:List Rat):SV.aY k (x.map aS)=false:=by rw[gU,List.any_eq_false];simp
theorem AI(k:Nat)(C:List (List Rat)):rH k (eH C)=eH C:=by unfold eH rH;rw[aBC];refine aBD λr _=>?_;simp[]
theorem fI{l:List Nat}{i:Nat}(h:i<l.length):aM (l.map cv) i=iv ((gt l i:Nat):Int):=by rw[ct _ h];rfl
theorem NJ{l:List Nat}{i x:Nat}:da (l.map cv) i (.val (.int .i64 ((x:Nat):Int)))=(l.set i x).map cv:=by rw[cq,aAq];rfl
theorem cx{l:List Rat}{i:Nat}{x:Rat}:da (l.map aS) i (aS x)=(l.set i x).map aS:=by rw[cq,aAq]
end Go.Mx
namespace Go.Proofs
open Go.Sv Go Go.Tb Go.Pl Go.Ut Go.Mx
end Go.Proofs
namespace Go.Mx
open Go Go.Sv Go.Pl Go.Proofs Go.Tb Go.Ut
end Go.Mx
namespace Go.Proofs
open Go.Sv Go Go.Tb Go.Pl Go.Ut Go.Mx
end Go.Proofs
namespace Go.Dt
open Go
abbrev y8:=Nat->Nat->Rat
def aG(f:Nat->Rat):Nat->Rat
 | 0=>0
 | k+1=>aG f k+f k
theorem aO{f g:Nat->Rat}:∀n,(∀i,i<n->f i=g i)->aG f n=aG g n
 | 0,_=>rfl
 | n+1,h=>by simp only[aG];rw[aO n λi hi=>h i (by omega),h n (by omega)]
theorem fi{f:Nat->Rat}(n:Nat)(h:∀i,i<n->f i=0):aG f n=0:=by
 induction n with
 | zero=>rfl
 | succ n ih=>simp only[aG];rw[ih λi hi=>h i (by omega),h n (by omega)];grind
theorem jY(f g:Nat->Rat):∀n,aG (λi=>f i+g i) n=aG f n+aG g n
 | 0=>by simp only[aG];grind
 | n+1=>by simp only[aG];rw[jY f g n];grind
theorem jS(c:Rat)(f:Nat->Rat):∀n,aG (λi=>c*f i) n=c*aG f n
 | 0=>by simp only[aG];grind
 | n+1=>by simp only[aG];rw[jS c f n];grind
theorem v5(f:Nat->Rat):∀n,aG (λi => -f i) n = -aG f n
 | 0=>by simp only[aG];grind
 | n+1=>by simp only[aG];rw[v5 f n];grind
theorem cA{f:Nat->Rat}{p:Nat}:∀n,p<n->(∀i,i<n->i≠p->f i=0)->aG f n=f p
 | n+1,hp,h=>by
  simp only[aG];by_cases e:p=n
  ·subst e;rw[fi p λi hi=>h i (by omega) (by omega)];grind
  ·rw[cA n (by omega) λi hi=>h i (by omega),h n (by omega) (λq=>e q.symm)];grind
theorem HG{f:Nat->Rat}{p q:Nat}(ai:p<q):∀n,q<n->(∀i,i<n->i≠p->i≠q->f i=0)->aG f n=f p+f q
 | n+1,hq,h=>by
  simp only[aG];by_cases e:q=n
  ·subst e;rw[cA (p:=p) q ai λi hi ac=>h i (by omega) ac (by omega)]
  ·rw[HG ai n (by omega) λi hi=>h i (by omega),h n (by omega) (by omega) (λq=>e q.symm)];grind
theorem sF(f:Nat->Nat->Rat)(m:Nat):∀n,aG (λi=>aG (λj=>f i j) m) n=aG (λj=>aG (λi=>f i j) n) m
 | 0=>by simp only[aG];exact(fi m λj _=>rfl).symm
 | n+1=>by simp only[aG];rw[sF f m n,<-jY]
def sg(i:Nat):Rat:=if i % 2=1 then -1 else 1
theorem KO(i:Nat):sg (i+1) = -sg i:=by
 unfold sg;by_cases h:i % 2=1
 ·rw[if_pos h,if_neg (by omega)];grind
 ·rw[if_neg h,if_pos (by omega)]
def Is(A:y8)(i:Nat):y8:=λr c=>A (if r<i then r else r+1) (c+1)
def R7:Nat->y8->Rat
 | 0,_=>1
 | n+1,A=>aG (λi=>sg i*A i 0*R7 n (Is A i)) (n+1)
def auO(A:y8)(p:Nat)(v:Nat->Rat):y8:=λr c=>if r=p then v c else A r c
def auN(A:y8)(p q:Nat):y8:=λr c=>if r=p then A q c else if r=q then A p c else A r c
def yj(A:y8):Nat->Rat
 | 0=>1
 | k+1=>yj A k*A k k
/-! columns -/
def aaE(A:y8)(p:Nat)(v:Nat->Rat):y8:=λr c=>if c=p then v r else A r c
def avd(A:y8)(p q:Nat):y8:=λr c=>if c=p then A r q else if c=q then A r p else A r c
def au3(n:Nat)(A:y8)(x:Nat->Rat)(r:Nat):Rat:=aG (λc=>A r c*x c) n
end Go.Dt
namespace Go.Dt
open Go
theorem kN(f g:Nat->Rat):∀n,aG (λi=>f i - g i) n=aG f n - aG g n
 | 0=>by simp only[aG];grind
 | n+1=>by simp only[aG];rw[kN f g n];grind
theorem xC(c:Rat)(f:Nat->Rat):∀n,aG (λi=>f i*c) n=aG f n*c
 | 0=>by simp only[aG];grind
 | n+1=>by simp only[aG];rw[xC c f n];grind
theorem uR{f:Nat->Rat}{m:Nat}:∀n,m<=n->(∀i,m<=i->i<n->f i=0)->aG f n=aG f m
 | 0,h,_=>by rw[show m=0 by omega]
 | n+1,h,hz=>by
  by_cases e:m=n+1
  ·rw[e]
  ·simp only[aG];rw[uR n (by omega) λi hi am=>hz i hi (by omega),hz n (by omega) (by omega)];grind
def ut(M:y8)(j c:Nat):Rat:=if j<=c then M j c else 0
def upM(k:Nat)(M:y8):y8:=λi c=>if c<i∧c<k then 0 else M i c
def sgn(ag:Bool):Rat:=if ag=true then -1 else 1
structure LuI(n:Nat)(A:y8)(k:Nat)(M:y8)(ord:Nat->Nat)(ag:Bool):Prop where
 lt:∀i,i<n->ord i<n
 inj:∀i j,i<n->j<n->ord i=ord j->i=j
 sur:∀r,r<n->∃i,i<n∧ord i=r
 eq:∀i c,i<n->c<n->A (ord i) c=aG (λj=>M i j*ut M j c) (min i k)+(if i<k then ut M i c else if c<k then 0 else M i c)
 piv:∀j,j<k->M j j≠0
 R7:Dt.R7 n (upM k M)=sgn ag*Dt.R7 n A
def elim(M:y8)(k:Nat):y8:=λi c=>if i<=k∨c<k then M i c else if c=k then M i k / M k k else M i c - M k c*(M i k / M k k)
def mulL(n:Nat)(A:y8)(x:Nat->Rat)(c:Nat):Rat:=aG (λr=>x r*A r c) n
theorem sM{f:Nat->Rat}:∀{n:Nat} {ord:Nat->Nat},(∀i,i<n->ord i<n)->(∀i j,i<n->j<n->ord i=ord j->i=j)->aG (λi=>f (ord i)) n=aG f n:=λ{n} {ord} hl hi=>by
 have a:aG (λi=>aG (λr=>if ord i=r then f r else 0) n) n=aG (λi=>f (ord i)) n:=aO n λi h=>by rw[cA (p:=ord i) n (hl i h) λr _ ac=>if_neg (λq=>ac q.symm),if_pos rfl]
 rw[<-a,sF];have sur:∀r,r<n->∃i,i<n∧ord i=r:=by
  have count:∀(m:Nat) (o:Nat->Nat),(∀i,i<m->o i<m)->(∀i j,i<m->j<m->o i=o j->i=j)->∀r,r<m->∃i,i<m∧o i=r:=λm=>by
   induction m with
   | zero=>intro _ _ _ r hr;omega
   | succ m ih =>
    intro o h1 h2 r hr;by_cases e:o m=m
    ·by_cases er:r=m
     ·exact⟨m,by omega,by rw[er];exact e⟩
     ·obtain⟨i,hi,q⟩:=ih o (λi hi=>by
       have:=h1 i (by omega);have:o i≠m:=λw=>by have:=h2 i m (by omega) (by omega) (by rw[w,e]);omega
       omega) (λi j hi hj=>h2 i j (by omega) (by omega)) r (by omega)
      exact⟨i,by omega,q⟩
    ·have hm:=h1 m (by omega);obtain⟨g1,g2⟩:(∀i,i<m->(if o i=m then o m else o i)<m)∧(∀i j,i<m->j<m->(if o i=m then o m else o i)=(if o j=m then o m else o j)->i=j):=by
      refine⟨λi hi=>?_,λi j hi hj w=>?_⟩
      ·have:=h1 i (by omega);split<;>omega
      ·by_cases a1:o i=m<;>by_cases a2:o j=m
       ·exact h2 i j (by omega) (by omega) (by omega)
       ·rw[if_pos a1,if_neg a2]at w;have:=h2 m j (by omega) (by omega) w;omega
       ·rw[if_neg a1,if_pos a2]at w;have:=h2 i m (by omega) (by omega) w;omega
       ·rw[if_neg a1,if_neg a2]at w;exact h2 i j (by omega) (by omega) w
     by_cases er:r=m
     ·subst er;refine Classical.byContradiction λno=>?_;have ak:∀i,i<r+1->o i≠r:=λi hi w=>no ⟨i,hi,w⟩;obtain⟨i,hi,w⟩:=ih o (λi hi=>by have:=h1 i (by omega);have:=ak i (by omega);omega) (λi j hi hj=>h2 i j (by omega) (by omega)) (o r) (by have:=ak r (by omega);omega);have:=h2 i r (by omega) (by omega) w;omega
     ·obtain⟨i,hi,w⟩:=ih (λi=>if o i=m then o m else o i) g1 g2 r (by omega);by_cases a1:o i=m
      ·simp only[if_pos a1]at w;exact⟨m,by omega,w⟩
      ·simp only[if_neg a1]at w;exact⟨i,by omega,w⟩
  exact count n ord hl hi
 refine aO n λr hr=>?_;obtain⟨i,h,rfl⟩:=sur r hr;rw[cA (p:=i) n h λj hj ac=>if_neg (λq=>ac (hi j i hj h q)),if_pos rfl]
def tl(f:Nat->Rat)(i n:Nat):Rat:=aG (λc=>if i<c then f c else 0) n
theorem SZ(f:Nat->Rat){i n:Nat}(h:i<=n):aG (λj=>if j<i then f j else 0) n=aG f i:=by rw[uR n h λj hj _=>if_neg (by omega)];exact aO i λj hj=>if_pos hj
end Go.Dt

