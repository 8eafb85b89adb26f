/- A text of the prover's own. -/
import Derived.Test.YtnimjdcaajmfcaaGreatDoorVXi
open Nat renaming add_sub_cancel_left->aCp,le_refl->axq
open Rat renaming zero_mul->aBG,le_refl->aBY,mul_le_mul_of_nonneg_left->aB7,mul_zero->aBH,mul_one->aCq,add_zero->aBX
open Bool renaming false_eq_true->aBv
open List renaming range->ayq
namespace Go.Sx
open Go Go.Sv Go.Pl Go.Proofs Go.Tb Go.Ut Go.Mx Go.Li Go.Dt
theorem Et{f:Nat->Rat}:∀n,cI f n=aG f n
 | 0=>rfl
 | n+1=>by simp only[cI,aG];rw[Et n]
theorem zd{f g:Nat->Rat}(n:Nat)(h:∀i,i<n->f i<=g i):aG f n<=aG g n:=by
 have:=Bn (f:=λi=>g i - f i) n λi hi=>by have:=h i hi;grind
 rw[kN]at this;grind
def Sl(p:aB)(n:Nat)(x:List Rat)(k:Nat):Rat:=if k<n then gt x k else jw p x (k - n)
theorem amo{p:aB}{n m:Nat}(hn:p.ai.length=n)(hm:p.rows.length=m)(hv:bA p=0)(x:List Rat):Kp p n m (Sl p n x):=λi hi=>by
 have h:=Bm (ob hv (by omega:i<p.rows.length)) x;have e:Sl p n x (n+i)=jw p x i:=by unfold Sl;rw[if_neg (by omega),aCp]
 rw[e];unfold jw;rw[<-h,Et,hn];exact aO _ λk hk=>by unfold Sl;rw[if_pos hk];grind
theorem amg{p:aB}{n m N:Nat}(hn:p.ai.length=n)(hm:p.rows.length=m)(hN:n+m=N){x:List Rat}(h:gE p x false=true):∀k,k<N->vG (gt (bC p n m N).low k) (Sl p n x k)∧uy (gt (bC p n m N).high k) (Sl p n x k):=λk hk=>by
 have gl:gt (bC p n m N).low k=if k<n then(gt p.ai k).low else(gt p.rows (k - n)).low:=by show gt (fW p m) k=_;exact pG hn hm (by omega)
 have gh:gt (bC p n m N).high k=if k<n then(gt p.ai k).high else(gt p.rows (k - n)).high:=by show gt (dt p m) k=_;exact mi hn hm (by omega)
 rw[gl,gh];unfold Sl;by_cases q:k<n
 ·rw[if_pos q,if_pos q,if_pos q];exact nq.1 (sG h (j:=k) (by omega))
 ·rw[if_neg q,if_neg q,if_neg q];exact nq.1 (xB h (i:=k - n) (by omega))
theorem Ku{p:aB}{n m N:Nat}(hn:p.ai.length=n)(hN:n+m=N){x:List Rat}{z:Nat->Rat}(hz:∀k,k<n->z k=gt x k):obj (bC p n m N) z=if p.max=true then -(gO p x n - p.shift) else gO p x n - p.shift:=by
 have e:aG (λk=>db p n k*z k) N=gO p x n - p.shift:=by
  rw[uX,Et];have:aG (λk=>db p n k*z k) N=aG (λk=>gt x k*(gt p.ai k).cost) n:=by rw[uR (m:=n) N (by omega) (λk h1 _=>by unfold db;rw[if_neg (by omega),aBG])];exact aO _ λk hk=>by unfold db;rw[if_pos hk,hz k hk];grind
  rw[this];grind
 unfold obj;by_cases hm:p.max=true
 ·rw[if_pos hm,<-e,<-v5];exact aO _ λk hk=>by rw[o6 (N:=N) hk,if_pos hm];grind
 ·rw[if_neg hm,<-e];exact aO _ λk hk=>by rw[o6 (N:=N) hk,if_neg hm]
theorem ND{c:Tc}{K:(Nat->Rat)->Prop}{s:Tb}(h:fm c K s){i:Nat}{aa:Bool}(st:Gj c s i aa){z:Nat->Rat}(hz:K z)(hb:∀k,k<c.N->vG (gt c.low k) (z k)∧uy (gt c.high k) (z k)):False:=by
 obtain⟨hi,s1,s2⟩:=st;have ez:=(h.d.sat z).1 hz i hi;have ex:=h.xb i hi;have bb:=hb _ (h.d.bl i hi);cases aa with
 | true =>
  obtain⟨⟨g1,g2⟩,g3⟩:=s1 rfl;have le:aG (λk=>gt (gt s.R i) k*z k) c.N<=aG (λk=>gt (gt s.R i) k*gt s.x k) c.N:=zd c.N λk hk=>by
   by_cases hw:gt s.wh k=1
   ·obtain⟨q,hq,rfl⟩:=(h.w k hk).1 hw;rw[h.d.z0 i q hi hq,aBG,aBG];exact aBY
   ·obtain⟨a1,a2⟩:=g3 k hk hw;have bk:=hb k hk;by_cases p1:0<gt (gt s.R i) k
    ·obtain⟨c1,c2⟩:=a1 p1;have:=bk.2 c1;exact aB7 (by grind) (by grind)
    ·by_cases p2:gt (gt s.R i) k<0
     ·obtain⟨c1,c2⟩:=a2 p2;have:=bk.1 c1;have:=aB7 (show gt s.x k<=z k by grind) (show 0 <= -(gt (gt s.R i) k) by grind);grind
     ·have:gt (gt s.R i) k=0:=by grind
      rw[this,aBG,aBG];exact aBY
  have:=bb.1 g1;grind
 | false =>
  obtain⟨⟨g1,g2⟩,g3⟩:=s2 rfl;have le:aG (λk=>gt (gt s.R i) k*gt s.x k) c.N<=aG (λk=>gt (gt s.R i) k*z k) c.N:=zd c.N λk hk=>by
   by_cases hw:gt s.wh k=1
   ·obtain⟨q,hq,rfl⟩:=(h.w k hk).1 hw;rw[h.d.z0 i q hi hq,aBG,aBG];exact aBY
   ·obtain⟨a1,a2⟩:=g3 k hk hw;have bk:=hb k hk;by_cases p1:0<gt (gt s.R i) k
    ·obtain⟨c1,c2⟩:=a2 p1;have:=bk.1 c1;exact aB7 (by grind) (by grind)
    ·by_cases p2:gt (gt s.R i) k<0
     ·obtain⟨c1,c2⟩:=a1 p2;have:=bk.2 c1;have:=aB7 (show z k<=gt s.x k by grind) (show 0 <= -(gt (gt s.R i) k) by grind);grind
     ·have:gt (gt s.R i) k=0:=by grind
      rw[this,aBG,aBG];exact aBY
  have:=bb.2 g1;grind
theorem RR{c:Tc}{K:(Nat->Rat)->Prop}{s:Tb}(h:fm c K s)(hb:EU c s){z:Nat->Rat}(hz:K z)(hi:∀k,k<c.N->vG (gt c.low k) (z k)∧uy (gt c.high k) (z k)):obj c (gt s.x)<=obj c z:=by
 rw[rY h.d h.kx,rY h.d hz];refine zd c.N λk hk=>?_;by_cases hw:gt s.wh k=1
 ·have:jg c s k=0:=if_pos ((h.w k hk).1 hw);rw[this,aBG,aBG];exact aBY
 ·have e:jg c s k=dN c s k c.m:=if_neg λg=>hw ((h.w k hk).2 g);rw[e];have nb:=hb k hk hw;have bk:=hi k hk;by_cases p1:0<dN c s k c.m
  ·obtain⟨c1,c2⟩:=tP (b:=gt c.low k) (x:=gt s.x k) λq=>nb (.inr ⟨p1,q⟩);have:=bk.1 c1;exact aB7 (by grind) (by grind)
  ·by_cases p2:dN c s k c.m<0
   ·obtain⟨c1,c2⟩:=tA (b:=gt c.high k) (x:=gt s.x k) λq=>nb (.inl ⟨p2,q⟩);have:=bk.2 c1;have:=aB7 (show z k<=gt s.x k by grind) (show 0 <= -(dN c s k c.m) by grind);grind
   ·have:dN c s k c.m=0:=by grind
    rw[this,aBG,aBG];exact aBY
theorem O7{p:aB}{n m N:Nat}(hn:p.ai.length=n)(hm:p.rows.length=m)(hN:n+m=N)(hv:bA p=0){s:Tb}{cl:kB}(h:qy (bC p n m N) (Kp p n m) s cl){x:List Rat}(hx:gE p x false=true) :
  cl.kind=3∨(cl.kind=1∧(gO p x n=cl.value∨decide (gO p x n<cl.value)=p.max)):=by
 have kz:=amo hn hm hv x;have iz:=amg hn hm hN hx;obtain⟨_,ac,h⟩:=h;rcases h with⟨⟨k,hk,g1,g2,g3⟩,rfl⟩ | ⟨_,i,aa,st,rfl⟩ | ⟨_,hf,hb,rfl⟩ | ⟨_,_,j,up,_,rfl⟩
 ·have:=iz k hk;have a:=this.1 g1;have b:=this.2 g2;grind
 ·exact(ND ac st kz iz).elim
 ·right;refine⟨rfl,?_⟩;have le:=RR ac hb kz iz;have e1:=Ku (p:=p) (m:=m) hn hN (x:=x) (z:=Sl p n x) λk hk=>by unfold Sl;rw[if_pos hk]
  have e2:=Ku (p:=p) (m:=m) hn hN (x:=s.x.take n) (z:=gt s.x) λk hk=>by simp[gt,hk]
  rw[e1,e2]at le;show gO p x n=gO p (s.x.take n) n∨decide (gO p x n<gO p (s.x.take n) n)=p.max;by_cases af:p.max=true
  ·rw[if_pos af,if_pos af]at le;rw[af];by_cases e:gO p x n=gO p (s.x.take n) n
   ·exact .inl e
   ·right;simp only[decide_eq_true_eq];grind
  ·rw[if_neg af,if_neg af]at le;have:p.max=false:=by simpa using af
   rw[this];right;simp only[decide_eq_false_iff_not];grind
 ·exact .inl rfl
end Go.Sx
namespace Go.Sx
open Go Go.Sv Go.Pl Go.Proofs Go.Tb Go.Ut Go.Mx Go.Li Go.Dt
theorem pj(f:Nat->Rat)(n:Nat):∀m,aG f (n+m)=aG f n+aG (λi=>f (n+i)) m
 | 0=>by simp only[aG,Nat.add_zero];grind
 | m+1=>by show aG f (n+m)+f (n+m)=_;rw[pj f n m];simp only[aG];grind
section
variable {p:aB} {n m N:Nat}
theorem o7(hn:p.ai.length=n)(hm:p.rows.length=m)(hN:n+m=N){k:Nat}(h:k<n):gt (bC p n m N).low k=(gt p.ai k).low:=by show gt (fW p m) k=_;rw[pG hn hm (by omega),if_pos h]
theorem mN(hn:p.ai.length=n)(hm:p.rows.length=m)(hN:n+m=N){k:Nat}(h:k<n):gt (bC p n m N).high k=(gt p.ai k).high:=by show gt (dt p m) k=_;rw[mi hn hm (by omega),if_pos h]
theorem py(hn:p.ai.length=n)(hm:p.rows.length=m)(hN:n+m=N){i:Nat}(h:i<m):gt (bC p n m N).low (n+i)=(gt p.rows i).low:=by show gt (fW p m) _=_;rw[pG hn hm (by omega),if_neg (by omega),aCp]
theorem mH(hn:p.ai.length=n)(hm:p.rows.length=m)(hN:n+m=N){i:Nat}(h:i<m):gt (bC p n m N).high (n+i)=(gt p.rows i).high:=by show gt (dt p m) _=_;rw[mi hn hm (by omega),if_neg (by omega),aCp]
theorem OJ(hn:p.ai.length=n)(hm:p.rows.length=m)(hv:bA p=0){z:Nat->Rat}(hz:Kp p n m z){X:List Rat}(hX:∀k,k<n->gt X k=z k){i:Nat}(hi:i<m):jw p X i=z (n+i):=by have h:=Bm (ob hv (by omega:i<p.rows.length)) X;unfold jw;rw[<-h,Et,hn,hz i hi];exact aO _ λk hk=>by rw[hX k hk];grind
theorem holds_of(hn:p.ai.length=n)(hm:p.rows.length=m)(hN:n+m=N)(hv:bA p=0){z:Nat->Rat}(hz:Kp p n m z){X:List Rat}(hX:∀k,k<n->gt X k=z k)(hf:∀k,k<N->vG (gt (bC p n m N).low k) (z k)∧uy (gt (bC p n m N).high k) (z k)):gE p X false=true:=by
 refine Cf (λk hk=>?_) λi hi=>?_
 ·have b:=hf k (by omega);rw[o7 hn hm hN (by omega),mN hn hm hN (by omega)]at b;have:E1 (gt X k) (gt p.ai k).low (gt p.ai k).high=true:=by
   rw[hX k (by omega)];exact nq.2 b
  unfold Gd;rw[this];rfl
 ·have b:=hf (n+i) (by omega);rw[py hn hm hN (by omega),mH hn hm hN (by omega),<-OJ hn hm hv hz hX (by omega:i<m)]at b;exact nq.2 b
def zU(p:aB)(n j k:Nat):Rat:=if k<n then(if k=j then 1 else 0) else cY (gt p.rows (k - n)).aI j
theorem aaJ{j:Nat}(hj:j<n):Kp p n m (zU p n j):=λi hi=>by rw[cA (p:=j) n hj (λk hk ab=>by unfold zU;rw[if_pos hk,if_neg ab,aBH])];unfold zU;rw[if_neg (by omega),if_pos hj,if_pos rfl,aCp,aCq]
theorem A9(hN:n+m=N){u:Nat->Rat}{j:Nat}(hj:j<n):aG (λk=>u k*zU p n j k) N=u j+aG (λi=>u (n+i)*cY (gt p.rows i).aI j) m:=by
 subst hN;rw[pj];congr 1
 ·rw[cA (p:=j) n hj (λk hk ab=>by unfold zU;rw[if_pos hk,if_neg ab,aBH])];unfold zU;rw[if_pos hj,if_pos rfl,aCq]
 ·exact aO _ λi hi=>by unfold zU;rw[if_neg (by omega),aCp]
theorem HN(p:aB)(y:List Rat)(j:Nat):∀i,dP p y j i=(gt p.ai j).cost - aG (λq=>gt y q*cY (gt p.rows q).aI j) i
 | 0=>by simp only[dP,aG];grind
 | i+1=>by simp only[dP,aG];rw[HN p y j i];grind
theorem F4(hN:n+m=N){i:Nat}(hi:i<m):gt (bC p n m N).cost (n+i)=0:=by rw[o6 (p:=p) (n:=n) (m:=m) (N:=N) (k:=n+i) (by omega)];unfold db;rw[if_neg (show ¬n+i<n by omega)];split<;>grind
theorem GS(hN:n+m=N){j:Nat}(hj:j<n):gt (bC p n m N).cost j=if p.max=true then -(gt p.ai j).cost else(gt p.ai j).cost:=by rw[o6 (p:=p) (n:=n) (m:=m) (N:=N) (k:=j) (by omega)];unfold db;rw[if_pos hj]
theorem Sq(hN:n+m=N){s:Tb}(h:xH (Kp p n m) N m s.basic s.R){j:Nat}(hj:j<n):gt (bC p n m N).cost j=jg (bC p n m N) s j+aG (λi=>jg (bC p n m N) s (n+i)*cY (gt p.rows i).aI j) m:=by
 have e:=rY (c:=bC p n m N) (K:=Kp p n m) h (aaJ (m:=m) hj);have e1:obj (bC p n m N) (zU p n j)=gt (bC p n m N).cost j+aG (λi=>gt (bC p n m N).cost (n+i)*cY (gt p.rows i).aI j) m:=A9 hN hj;have e2:aG (λk=>jg (bC p n m N) s k*zU p n j k) N=_:=A9 hN hj;have z:aG (λi=>gt (bC p n m N).cost (n+i)*cY (gt p.rows i).aI j) m=0:=fi m λi hi=>by rw[F4 hN hi,aBG]
 rw[z,aBX]at e1;rw[<-e1,e];exact e2
def sg(p:aB):Rat:=if p.max=true then -1 else 1
theorem Nq(hN:n+m=N){s:Tb}(h:fm (bC p n m N) (Kp p n m) s){i:Nat}(hi:i<m):vP (bC p n m N) s i=sg p*jg (bC p n m N) s (n+i):=by
 have w:=h.w (n+i) (show n+i<N by omega);unfold vP sg;show(if gt s.wh (n+i)=1 then(0:Rat) else if p.max=true then -(dN (bC p n m N) s (n+i) m) else dN (bC p n m N) s (n+i) m)=_;by_cases q:gt s.wh (n+i)=1
 ·rw[if_pos q];have:jg (bC p n m N) s (n+i)=0:=if_pos (w.1 q);rw[this,aBH]
 ·rw[if_neg q];have:jg (bC p n m N) s (n+i)=dN (bC p n m N) s (n+i) m:=if_neg λg=>q (w.2 g);rw[this];split<;>grind
theorem Iv(hN:n+m=N){s:Tb}(h:fm (bC p n m N) (Kp p n m) s){y:List Rat}(hy:∀i,i<m->gt y i=sg p*jg (bC p n m N) s (n+i)){j:Nat}(hj:j<n):dP p y j m=sg p*jg (bC p n m N) s j:=by
 have e:=Sq hN h.d hj;rw[GS hN hj]at e;rw[HN];have e2:aG (λq=>gt y q*cY (gt p.rows q).aI j) m=sg p*aG (λi=>jg (bC p n m N) s (n+i)*cY (gt p.rows i).aI j) m:=by rw[<-jS];exact aO _ λi hi=>by rw[hy i hi];grind
 rw[e2];generalize aG (λi=>jg (bC p n m N) s (n+i)*cY (gt p.rows i).aI j) m=A at *;unfold sg;by_cases q:p.max=true
 ·rw[if_pos q]at e ⊢;grind
 ·rw[if_neg q]at e ⊢;grind
end
theorem Em{s:Sp}{low high:Bo}{r v:Rat}(hs:s.hi.has=true)(h1:r<0->low.has=true∧low.at'=v)(h2:0<r->high.has=true∧high.at'=v):(eY s low high r).hi.has=true∧(eY s low high r).hi.at'=s.hi.at'+v*r:=by
 unfold eY;by_cases z:r=0
 ·rw[if_pos z,z];exact⟨hs,by grind⟩
 ·rw[if_neg z];by_cases g:r<0
  ·rw[if_pos g];obtain⟨a,b⟩:=h1 g;show(fK s.hi low r).has=true∧_;unfold fK;rw[if_pos ⟨hs,a⟩];exact⟨rfl,by show s.hi.at'+low.at'*r=_;rw[b]⟩
  ·rw[if_neg g];obtain⟨a,b⟩:=h2 (by grind);show(fK s.hi high r).has=true∧_;unfold fK;rw[if_pos ⟨hs,a⟩];exact⟨rfl,by show s.hi.at'+high.at'*r=_;rw[b]⟩
theorem Ej{s:Sp}{low high:Bo}{r v:Rat}(hs:s.lo.has=true)(h1:r<0->high.has=true∧high.at'=v)(h2:0<r->low.has=true∧low.at'=v):(eY s low high r).lo.has=true∧(eY s low high r).lo.at'=s.lo.at'+v*r:=by
 unfold eY;by_cases z:r=0
 ·rw[if_pos z,z];exact⟨hs,by grind⟩
 ·rw[if_neg z];by_cases g:r<0
  ·rw[if_pos g];obtain⟨a,b⟩:=h1 g;show(fK s.lo high r).has=true∧_;unfold fK;rw[if_pos ⟨hs,a⟩];exact⟨rfl,by show s.lo.at'+high.at'*r=_;rw[b]⟩
  ·rw[if_neg g];obtain⟨a,b⟩:=h2 (by grind);show(fK s.lo low r).has=true∧_;unfold fK;rw[if_pos ⟨hs,a⟩];exact⟨rfl,by show s.lo.at'+low.at'*r=_;rw[b]⟩
theorem SK{c:Tc}{K:(Nat->Rat)->Prop}{s:Tb}(h:fm c K s)(hf:mr c s)(hb:EU c s){k:Nat}(hk:k<c.N):(jg c s k<0->(gt c.high k).has=true∧(gt c.high k).at'=gt s.x k)∧(0<jg c s k->(gt c.low k).has=true∧(gt c.low k).at'=gt s.x k):=by
 have fk:=hf k hk;by_cases hw:gt s.wh k=1
 ·have:jg c s k=0:=if_pos ((h.w k hk).1 hw);rw[this];exact⟨λg=>by grind,λg=>by grind⟩
 ·have e:jg c s k=dN c s k c.m:=if_neg λg=>hw ((h.w k hk).2 g);rw[e];have nb:=hb k hk hw;refine⟨λg=>?_,λg=>?_⟩
  ·obtain⟨c1,c2⟩:=tA (b:=gt c.high k) (x:=gt s.x k) λq=>nb (.inl ⟨g,q⟩);have:=fk.2 c1;exact⟨c1,by grind⟩
  ·obtain⟨c1,c2⟩:=tP (b:=gt c.low k) (x:=gt s.x k) λq=>nb (.inr ⟨g,q⟩);have:=fk.1 c1;exact⟨c1,by grind⟩
section
variable {p:aB} {n m N:Nat}
theorem Pv(hn:p.ai.length=n)(hm:p.rows.length=m)(hN:n+m=N)(hv:bA p=0){s:Tb}(h:fm (bC p n m N) (Kp p n m) s)(hf:mr (bC p n m N) s)(hb:EU (bC p n m N) s){y:List Rat}(hy:∀i,i<m->gt y i=sg p*jg (bC p n m N) s (n+i)){X:List Rat}(hX:∀k,k<n->gt X k=gt s.x k) :
  (nO p y).has=true∧(nO p y).at'=gO p X n:=by
 have xr:=λi (hi:i<m)=>OJ hn hm hv h.kx hX hi;have bt:=λk (hk:k<N)=>SK h hf hb (k:=k) hk;have Jn:p.shift+cI (λk=>gt y k*jw p X k) m+cI (λk=>gt X k*dP p y k m) n=gO p X n:=by have e:=VW (oR hv).2.2 X y m (by omega);rw[hn]at e;rw[uX,e];grind
 by_cases hx:p.max=true
 ·have ae:sg p = -1:=if_pos hx;rw[ae]at hy;have dp:=λj (hj:j<n)=>Iv hN h (y:=y) (by rw[ae];exact hy) hj;rw[ae]at dp;have r1:∀i,i<=m->(BG p y i).hi.has=true∧(BG p y i).hi.at'=p.shift+cI (λk=>gt y k*jw p X k) i:=λi=>by
   induction i with
   | zero=>intro _;exact⟨rfl,by show p.shift=_;simp only[cI];grind⟩
   | succ i ih =>
    intro hi;obtain⟨a1,a2⟩:=ih (by omega);have b:=bt (n+i) (by omega);rw[py hn hm hN (by omega),mH hn hm hN (by omega),<-xr i (by omega)]at b;have yi:=hy i (by omega);obtain⟨c1,c2⟩:=Em (s:=BG p y i) (low:=(gt p.rows i).low) (high:=(gt p.rows i).high) (r:=gt y i) (v:=jw p X i) a1 (λg=>b.2 (by grind)) λg=>b.1 (by grind);exact⟨c1,by show(eY _ _ _ _).hi.at'=_;rw[c2,a2];simp only[cI];grind⟩
  have r2:∀j,j<=n->(BJ p y j).hi.has=true∧(BJ p y j).hi.at'=p.shift+cI (λk=>gt y k*jw p X k) m+cI (λk=>gt X k*dP p y k m) j:=λj=>by
   induction j with
   | zero =>
    intro _;obtain⟨a1,a2⟩:=r1 m (axq _);show(BG p y p.rows.length).hi.has=true∧(BG p y p.rows.length).hi.at'=_;rw[hm];exact⟨a1,by rw[a2];simp only[cI];grind⟩
   | succ j ih =>
    intro hj;obtain⟨a1,a2⟩:=ih (by omega);have b:=bt j (by omega);rw[o7 hn hm hN (by omega),mN hn hm hN (by omega),<-hX j (by omega)]at b;have dj:=dp j (by omega);obtain⟨c1,c2⟩:=Em (s:=BJ p y j) (low:=(gt p.ai j).low) (high:=(gt p.ai j).high) (r:=dP p y j p.rows.length) (v:=gt X j) a1 (λg=>b.2 (by rw[hm]at g;grind)) λg=>b.1 (by rw[hm]at g;grind);exact⟨c1,by show(eY _ _ _ _).hi.at'=_;rw[c2,a2,hm];simp only[cI];grind⟩
  have:=r2 n (axq _);unfold nO;rw[if_pos hx,hn];exact⟨this.1,by rw[this.2,Jn]⟩
 ·have ae:sg p=1:=if_neg hx;rw[ae]at hy;have dp:=λj (hj:j<n)=>Iv hN h (y:=y) (by rw[ae];exact hy) hj;rw[ae]at dp;have r1:∀i,i<=m->(BG p y i).lo.has=true∧(BG p y i).lo.at'=p.shift+cI (λk=>gt y k*jw p X k) i:=λi=>by
   induction i with
   | zero=>intro _;exact⟨rfl,by show p.shift=_;simp only[cI];grind⟩
   | succ i ih =>
    intro hi;obtain⟨a1,a2⟩:=ih (by omega);have b:=bt (n+i) (by omega);rw[py hn hm hN (by omega),mH hn hm hN (by omega),<-xr i (by omega)]at b;have yi:=hy i (by omega);obtain⟨c1,c2⟩:=Ej (s:=BG p y i) (low:=(gt p.rows i).low) (high:=(gt p.rows i).high) (r:=gt y i) (v:=jw p X i) a1 (λg=>b.1 (by grind)) λg=>b.2 (by grind);exact⟨c1,by show(eY _ _ _ _).lo.at'=_;rw[c2,a2];simp only[cI];grind⟩
  have r2:∀j,j<=n->(BJ p y j).lo.has=true∧(BJ p y j).lo.at'=p.shift+cI (λk=>gt y k*jw p X k) m+cI (λk=>gt X k*dP p y k m) j:=λj=>by
   induction j with
   | zero =>
    intro _;obtain⟨a1,a2⟩:=r1 m (axq _);show(BG p y p.rows.length).lo.has=true∧(BG p y p.rows.length).lo.at'=_;rw[hm];exact⟨a1,by rw[a2];simp only[cI];grind⟩
   | succ j ih =>
    intro hj;obtain⟨a1,a2⟩:=ih (by omega);have b:=bt j (by omega);rw[o7 hn hm hN (by omega),mN hn hm hN (by omega),<-hX j (by omega)]at b;have dj:=dp j (by omega);obtain⟨c1,c2⟩:=Ej (s:=BJ p y j) (low:=(gt p.ai j).low) (high:=(gt p.ai j).high) (r:=dP p y j p.rows.length) (v:=gt X j) a1 (λg=>b.1 (by rw[hm]at g;grind)) λg=>b.2 (by rw[hm]at g;grind);exact⟨c1,by show(eY _ _ _ _).lo.at'=_;rw[c2,a2,hm];simp only[cI];grind⟩
  have:=r2 n (axq _);unfold nO;rw[if_neg hx,hn];exact⟨this.1,by rw[this.2,Jn]⟩
end
end Go.Sx
namespace Go.Sx
open Go Go.Sv Go.Pl Go.Proofs Go.Tb Go.Ut Go.Mx Go.Li Go.Dt
theorem Dm{f g:Nat->Rat}{q:Nat}:∀n,q<n->(∀i,i<n->f i<=g i)->f q<g q->aG f n<aG g n
 | 0,h,_,_=>by omega
 | n+1,h,h1,h2=>by
  simp only[aG];by_cases e:q=n
  ·subst e;have:=zd (f:=f) (g:=g) q λi hi=>h1 i (by omega);grind
  ·have:=Dm n (by omega) (λi hi=>h1 i (by omega)) h2;have:=h1 n (by omega);grind
section
variable {p:aB} {n m N:Nat}
def uF(s:Tb)(i:Nat)(σ:Rat)(k:Nat):Rat:=(if k=gt s.basic i then σ else 0) - σ*gt (gt s.R i) k
theorem JJ{K:(Nat->Rat)->Prop}{s:Tb}(h:xH K N m s.basic s.R){i:Nat}(hi:i<m)(σ:Rat){z:Nat->Rat}(hz:K z):aG (λk=>uF s i σ k*z k) N=0:=by
 have e:=(h.sat z).1 hz i hi;have e1:aG (λk=>uF s i σ k*z k) N=aG (λk=>(if k=gt s.basic i then σ else 0)*z k) N - aG (λk=>σ*(gt (gt s.R i) k*z k)) N:=by rw[<-kN];exact aO _ λk hk=>by unfold uF;grind
 rw[e1,jS,<-e,cA (p:=gt s.basic i) N (h.bl i hi) (λk _ hk=>by rw[if_neg hk,aBG]),if_pos rfl];grind
def beta(c:Tc)(u:Nat->Rat)(k:Nat):Rat:=if u k<0 then(gt c.high k).at' else(gt c.low k).at'
theorem RQ(hn:p.ai.length=n)(hm:p.rows.length=m)(hN:n+m=N){s:Tb}(h:fm (bC p n m N) (Kp p n m) s){i:Nat}{aa:Bool}(st:Gj (bC p n m N) s i aa){y:List Rat}(hy:∀q,q<m->gt y q=BP (bC p n m N) s i aa q):ym p y=true:=by
 obtain⟨hi,s1,s2⟩:=st;replace hi:i<m:=hi;obtain⟨σ,hσ⟩:∃σ:Rat,σ=if aa=true then 1 else -1:=⟨_,rfl⟩;have dl:=h.d.bl i hi
 -- what is known of each column
 have key:∀k,k<N->(uF s i σ k<0->(gt (bC p n m N).high k).has=true∧uF s i σ k*gt s.x k<=uF s i σ k*(gt (bC p n m N).high k).at')∧(0<uF s i σ k->(gt (bC p n m N).low k).has=true∧uF s i σ k*gt s.x k<=uF s i σ k*(gt (bC p n m N).low k).at'):=λk hk=>by
  by_cases hw:gt s.wh k=1
  ·obtain⟨q,hq,e⟩:=(h.w k hk).1 hw;have z:gt (gt s.R i) k=0:=by rw[<-e];exact h.d.z0 i q hi hq
   unfold uF;rw[z];by_cases eb:k=gt s.basic i
   ·rw[if_pos eb];cases aa with
    | true =>
     obtain⟨⟨g1,g2⟩,_⟩:=s1 rfl;simp only[if_true]at hσ;rw[<-eb]at g1 g2;subst hσ;exact⟨λg=>by grind,λ_=>⟨g1,by grind⟩⟩
    | false =>
     obtain⟨⟨g1,g2⟩,_⟩:=s2 rfl;simp only[aBv,if_false]at hσ;rw[<-eb]at g1 g2;subst hσ;exact⟨λ_=>⟨g1,by grind⟩,λg=>by grind⟩
   ·rw[if_neg eb];exact⟨λg=>by grind,λg=>by grind⟩
  ·have nb:k≠gt s.basic i:=λe=>hw ((h.w k hk).2 ⟨i,hi,e.symm⟩);unfold uF;rw[if_neg nb];cases aa with
   | true =>
    simp only[if_true]at hσ;obtain⟨a1,a2⟩:=(s1 rfl).2 k hk hw;subst hσ;refine⟨λg=>?_,λg=>?_⟩
    ·obtain⟨c1,c2⟩:=a1 (by grind);have:=aB7 c2 (show 0<=gt (gt s.R i) k by grind);exact⟨c1,by grind⟩
    ·obtain⟨c1,c2⟩:=a2 (by grind);have:=aB7 c2 (show 0 <= -(gt (gt s.R i) k) by grind);exact⟨c1,by grind⟩
   | false =>
    simp only[aBv,if_false]at hσ;obtain⟨a1,a2⟩:=(s2 rfl).2 k hk hw;subst hσ;refine⟨λg=>?_,λg=>?_⟩
    ·obtain⟨c1,c2⟩:=a1 (by grind);have:=aB7 c2 (show 0 <= -(gt (gt s.R i) k) by grind);exact⟨c1,by grind⟩
    ·obtain⟨c1,c2⟩:=a2 (by grind);have:=aB7 c2 (show 0<=gt (gt s.R i) k by grind);exact⟨c1,by grind⟩
 have strict:uF s i σ (gt s.basic i)*gt s.x (gt s.basic i)<uF s i σ (gt s.basic i)*beta (bC p n m N) (uF s i σ) (gt s.basic i):=by
  have z:gt (gt s.R i) (gt s.basic i)=0:=h.d.z0 i i hi hi;have eu:uF s i σ (gt s.basic i)=σ:=by unfold uF;rw[if_pos rfl,z];grind
  unfold beta;rw[eu];cases aa with
  | true =>
   obtain⟨⟨g1,g2⟩,_⟩:=s1 rfl;simp only[if_true]at hσ;subst hσ;rw[if_neg (by decide)];grind
  | false =>
   obtain⟨⟨g1,g2⟩,_⟩:=s2 rfl;simp only[aBv,if_false]at hσ;subst hσ;rw[if_pos (by decide)];grind
 have pos:0<aG (λk=>uF s i σ k*beta (bC p n m N) (uF s i σ) k) N:=by
  have z0:aG (λk=>uF s i σ k*gt s.x k) N=0:=JJ h.d hi σ h.kx;rw[<-z0];refine Dm N dl (λk hk=>?_) strict;unfold beta;by_cases g:uF s i σ k<0
  ·rw[if_pos g];exact((key k hk).1 g).2
  ·rw[if_neg g];by_cases g2:0<uF s i σ k
   ·exact((key k hk).2 g2).2
   ·have:uF s i σ k=0:=by grind
    rw[this,aBG,aBG];exact aBY
 have yu:∀q,q<m->gt y q=uF s i σ (n+q):=λq hq=>by
  rw[hy q hq];unfold BP HI uF;show(if aa=true then(if gt s.basic i=n+q then(1:Rat) else -(gt (gt s.R i) (n+q))) else -(if gt s.basic i=n+q then(1:Rat) else -(gt (gt s.R i) (n+q))))=_;by_cases e:gt s.basic i=n+q
  ·have z:gt (gt s.R i) (n+q)=0:=by rw[<-e];exact h.d.z0 i i hi hi
   rw[if_pos e,if_pos e.symm,z,hσ];cases aa
   ·simp only[aBv,if_false];grind
   ·simp only[if_true];grind
  ·rw[if_neg e,if_neg (show ¬n+q=gt s.basic i from λg=>e g.symm),hσ];cases aa
   ·simp only[aBv,if_false];grind
   ·simp only[if_true];grind
 have dj:∀j,j<n->dP (free p) y j m=uF s i σ j:=λj hj=>by
  rw[HN];have e0:(gt (free p).ai j).cost=0:=by rw[xj (by omega)]
  rw[e0];have e1:aG (λk=>uF s i σ k*zU p n j k) N=0:=JJ h.d hi σ (aaJ (p:=p) (m:=m) hj);rw[A9 hN hj]at e1;have e2:aG (λq=>gt y q*cY (gt (free p).rows q).aI j) m=aG (λq=>uF s i σ (n+q)*cY (gt p.rows q).aI j) m:=aO _ λq hq=>by rw[yu q hq];rfl
  rw[e2];grind
 have r1:∀q,q<=m->(JS p y q).lo.has=true∧(JS p y q).lo.at'=aG (λq=>uF s i σ (n+q)*beta (bC p n m N) (uF s i σ) (n+q)) q:=λq=>by
  induction q with
  | zero=>intro _;exact⟨rfl,rfl⟩
  | succ q ih =>
   intro hq;obtain⟨a1,a2⟩:=ih (by omega);have b:=key (n+q) (by omega);have eb:beta (bC p n m N) (uF s i σ) (n+q)=if uF s i σ (n+q)<0 then(gt p.rows q).high.at' else(gt p.rows q).low.at':=by unfold beta;rw[py hn hm hN (by omega),mH hn hm hN (by omega)]
   rw[py hn hm hN (by omega),mH hn hm hN (by omega)]at b;obtain⟨c1,c2⟩:=Ej (s:=JS p y q) (low:=(gt p.rows q).low) (high:=(gt p.rows q).high) (r:=gt y q) (v:=beta (bC p n m N) (uF s i σ) (n+q)) a1 (λg=>by
    rw[yu q (by omega)]at g;rw[eb,if_pos g];exact⟨(b.1 g).1,rfl⟩) λg=>by
    rw[yu q (by omega)]at g;rw[eb,if_neg (by grind)];exact⟨(b.2 g).1,rfl⟩
   exact⟨c1,by show(eY _ _ _ _).lo.at'=_;rw[c2,a2,yu q (by omega)];simp only[aG];grind⟩
 have r2:∀j,j<=n->(Me p y j).hi.has=true∧(Me p y j).hi.at' = -aG (λk=>uF s i σ k*beta (bC p n m N) (uF s i σ) k) j:=λj=>by
  induction j with
  | zero=>intro _;exact⟨rfl,by show(0:Rat) = -(0:Rat);grind⟩
  | succ j ih =>
   intro hj;obtain⟨a1,a2⟩:=ih (by omega);have b:=key j (by omega);have eb:beta (bC p n m N) (uF s i σ) j=if uF s i σ j<0 then(gt p.ai j).high.at' else(gt p.ai j).low.at':=by unfold beta;rw[o7 hn hm hN (by omega),mN hn hm hN (by omega)]
   rw[o7 hn hm hN (by omega),mN hn hm hN (by omega)]at b;have ed : -(dP (free p) y j p.rows.length) = -(uF s i σ j):=by rw[hm,dj j (by omega)]
   obtain⟨c1,c2⟩:=Em (s:=Me p y j) (low:=(gt p.ai j).low) (high:=(gt p.ai j).high) (r := -(dP (free p) y j p.rows.length)) (v:=beta (bC p n m N) (uF s i σ) j) a1 (λg=>by
    rw[ed]at g;rw[eb,if_neg (by grind)];exact⟨(b.2 (by grind)).1,rfl⟩) λg=>by
    rw[ed]at g;rw[eb,if_pos (by grind)];exact⟨(b.1 (by grind)).1,rfl⟩
   exact⟨c1,by show(eY _ _ _ _).hi.at'=_;rw[c2,a2,ed];simp only[aG];grind⟩
 obtain⟨a1,a2⟩:=r1 m (axq _);obtain⟨b1,b2⟩:=r2 n (axq _);unfold ym GA;rw[hm,hn,a1,b1,a2,b2];have sp:aG (λk=>uF s i σ k*beta (bC p n m N) (uF s i σ) k) N=aG (λk=>uF s i σ k*beta (bC p n m N) (uF s i σ) k) n+aG (λq=>uF s i σ (n+q)*beta (bC p n m N) (uF s i σ) (n+q)) m:=by rw[<-hN];exact pj _ n m
 rw[sp]at pos;simp only[Bool.and_self,Bool.true_and,decide_eq_true_eq];grind
end
end Go.Sx
namespace Go.Sx
open Go Go.Sv Go.Pl Go.Proofs Go.Tb Go.Ut Go.Mx Go.Li Go.Dt
theorem JZ{N k:Nat}(h:k<N):gt (List.replicate N (0:Rat)) k=0:=by simp[gt,h]
theorem ac5{p:aB}{c:kB}(h:c.kind=1):uw p c=tu p c:=by unfold uw;rw[if_pos h]
theorem T5{p:aB}{c:kB}(h:c.kind=2):uw p c=Li.nH p c:=by unfold uw;rw[if_neg (by rw[h];decide),if_pos h]
theorem abT{p:aB}{c:kB}(h:c.kind=3):uw p c=sV p c:=by unfold uw;rw[if_neg (by rw[h];decide),if_neg (by rw[h];decide),if_pos h]
section
variable {c:Tc} {K:(Nat->Rat)->Prop} {s:Tb} {j:Nat} {y:Rat}
theorem oC(h:fm c K s){k:Nat}(hk:k<c.N)(ab:k≠j)(hb:∀i,i<c.m->gt s.basic i≠k):∀i,i<=c.m->gt (gW c s j y i) k=0
 | 0,_=>by simp only[gW];rw[bE (by simpa using hk),if_neg (λe=>ab e.symm),JZ hk]
 | i+1,hi=>by simp only[gW];rw[bE (by rw[kP];exact hk),if_neg (hb i (by omega))];exact oC h hk ab hb i (by omega)
theorem vj(h:fm c K s)(hj:j<c.N)(hb:∀i,i<c.m->gt s.basic i≠j):∀i,i<=c.m->gt (gW c s j y i) j=y
 | 0,_=>by simp only[gW];rw[bE (by simpa using hj),if_pos rfl]
 | i+1,hi=>by simp only[gW];rw[bE (by rw[kP];exact hj),if_neg (hb i (by omega))];exact vj h hj hb i (by omega)
theorem rV(h:fm c K s)(hj:j<c.N)(hb:∀i,i<c.m->gt s.basic i≠j){r:Nat}(hr:r<c.m):∀i,i<=c.m->gt (gW c s j y i) (gt s.basic r)=if r<i then gt (gt s.R r) j*y else 0
 | 0,_=>by have hl:=h.d.bl r hr;simp only[gW];rw[bE (by simpa using hl),if_neg (λe=>hb r hr e.symm),if_neg (by omega),JZ hl]
 | i+1,hi=>by
  simp only[gW];rw[bE (by rw[kP];exact h.d.bl r hr)];by_cases e:i=r
  ·subst e;rw[if_pos rfl,if_pos (by omega)]
  ·rw[if_neg (λq=>e (h.d.inj i r (by omega) hr q)),rV h hj hb hr i (by omega)];by_cases q:r<i
   ·rw[if_pos q,if_pos (by omega)]
   ·rw[if_neg q,if_neg (by omega)]
theorem Up(h:fm c K s)(hj:j<c.N)(hw:gt s.wh j≠1):K (gt (gW c s j y c.m)):=(h.d.sat _).2 λr hr=>by
 have hb:=h.nb hj hw;rw[rV h hj hb hr c.m (axq _),if_pos hr];rw[cA (p:=j) c.N hj (λk hk ab=>?_),vj h hj hb c.m (axq _)];by_cases ad:∃q,q<c.m∧gt s.basic q=k
 ·obtain⟨q,hq,rfl⟩:=ad;rw[h.d.z0 r q hr hq,aBG]
 ·rw[oC h hk ab (λq hq e=>ad ⟨q,hq,e⟩) c.m (axq _),aBH]
theorem Ts(h:fm c K s)(hj:j<c.N)(hw:gt s.wh j≠1):obj c (gt (gW c s j y c.m))=dN c s j c.m*y:=by
 have hb:=h.nb hj hw;rw[rY h.d (Up h hj hw)];rw[cA (p:=j) c.N hj (λk hk ab=>?_),vj h hj hb c.m (axq _)]
 ·have:jg c s j=dN c s j c.m:=if_neg λg=>hw ((h.w j hj).2 g);rw[this]
 ·by_cases ad:∃q,q<c.m∧gt s.basic q=k
  ·have:jg c s k=0:=if_pos ad;rw[this,aBG]
  ·rw[oC h hk ab (λq hq e=>ad ⟨q,hq,e⟩) c.m (axq _),aBH]
theorem RW(h:fm c K s){up:Bool}(he:sJ c s j up){k:Nat}(hk:k<c.N):yz (gt c.low k) (gt c.high k) (gt (gW c s j (yD up 1) c.m) k)=true:=by
 obtain⟨hj,hw, -, -,ho,hq⟩:=he;have hb:=h.nb hj hw;by_cases e:k=j
 ·subst e;rw[vj h hj hb c.m (axq _)];unfold yD gT at *;cases up with
  | true =>
   simp only[if_true]at ho ⊢;unfold yz;rw[ho];have:¬(1:Rat)<0:=by decide
   simp[this]
  | false =>
   simp only[aBv,if_false]at ho ⊢;unfold yz;rw[ho];have:¬(0:Rat) < -1:=by decide
   simp[this]
 ·by_cases ad:∃q,q<c.m∧gt s.basic q=k
  ·obtain⟨q,ag,rfl⟩:=ad;rw[rV h hj hb ag c.m (axq _),if_pos ag,SF,aCq];have:=hq q ag;unfold oE at this;unfold yz;by_cases p1:0<gD s j up q
   ·have p2:¬gD s j up q<0:=by grind
    have p3:(gt c.high (gt s.basic q)).has=false:=by
     cases g:(gt c.high (gt s.basic q)).has with
     | false=>rfl
     | true=>exact absurd (.inl ⟨p1,g⟩) this
    simp[p1,p2,p3]
   ·by_cases p2:gD s j up q<0
    ·have p3:(gt c.low (gt s.basic q)).has=false:=by
      cases g:(gt c.low (gt s.basic q)).has with
      | false=>rfl
      | true=>exact absurd (.inr ⟨p2,g⟩) this
     simp[p1,p2,p3]
    ·simp[p1,p2]
  ·rw[oC h hk e (λq hq e=>ad ⟨q,hq,e⟩) c.m (axq _)];have:¬(0:Rat)<0:=by decide
   unfold yz;simp[this]
end
section
variable {p:aB} {n m N:Nat}
theorem GV(x:List Rat):∀j,jc p x j=aG (λk=>(gt p.ai k).cost*gt x k) j
 | 0=>rfl
 | j+1=>by simp only[jc,aG];rw[GV x j]
theorem OD(hN:n+m=N){x:List Rat}{z:Nat->Rat}(hz:∀k,k<n->gt x k=z k):jc p x n=sg p*obj (bC p n m N) z:=by
 rw[GV];have e:obj (bC p n m N) z=aG (λk=>gt (bC p n m N).cost k*z k) n:=by show aG _ N=_;subst hN;rw[pj];rw[fi m λi hi=>by rw[F4 rfl hi,aBG],aBX]
 rw[e,<-jS];refine aO _ λk hk=>?_;rw[GS hN hk,hz k hk];unfold sg;split<;>grind
theorem We(hn:p.ai.length=n)(hm:p.rows.length=m)(hN:n+m=N)(hv:bA p=0){s:Tb}(h:fm (bC p n m N) (Kp p n m) s)(hf:mr (bC p n m N) s){j:Nat}{up:Bool}(he:sJ (bC p n m N) s j up) :
  sV p ⟨3,s.x.take n,[],(gW (bC p n m N) s j (yD up 1) m).take n,0⟩=true:=by
 have xl:s.x.length=N:=h.t.x;have rl:(gW (bC p n m N) s j (yD up 1) m).length=N:=kP ..;have hX:∀k,k<n->gt (s.x.take n) k=gt s.x k:=λk hk=>by simp[gt,hk]
 have kr:=Up (y:=yD up 1) h he.1 he.2.1;have ro:=λk (hk:k<N)=>RW h he (k:=k) hk;have rj:=Ts (y:=yD up 1) h he.1 he.2.1;replace kr:Kp p n m (gt (gW (bC p n m N) s j (yD up 1) m)):=kr;replace rj:obj (bC p n m N) (gt (gW (bC p n m N) s j (yD up 1) m))=dN (bC p n m N) s j m*yD up 1:=rj;replace ro:∀k,k<N->yz (gt (bC p n m N).low k) (gt (bC p n m N).high k) (gt (gW (bC p n m N) s j (yD up 1) m) k)=true:=ro;obtain⟨hj,hw,d1,d2, -, -⟩:=he;generalize gW (bC p n m N) s j (yD up 1) m=L at *;have hL:∀k,k<n->gt (L.take n) k=gt L k:=λk hk=>by simp[gt,hk]
 have neg:dN (bC p n m N) s j m*yD up 1<0:=by
  unfold yD;cases up with
  | true=>have:=d1 rfl;replace this:dN (bC p n m N) s j m<0:=this;simp only[if_true];grind
  | false=>have:=d2 rfl;replace this:0<dN (bC p n m N) s j m:=this;simp only[aBv,if_false];grind
 have g:=OD (p:=p) (m:=m) hN hL;rw[rj]at g;have oc:∀k,k<n->Bw p (L.take n) k=true:=λk hk=>by have:=ro k (by omega);rw[o7 hn hm hN hk,mN hn hm hN hk,<-hL k hk]at this;exact this
 have or':∀i,i<m->Hn p (L.take n) i=true:=λi hi=>by have:=ro (n+i) (by omega);rw[py hn hm hN hi,mH hn hm hN hi,<-OJ hn hm hv kr hL hi]at this;exact this
 unfold sV;have e1:(ayq p.ai.length).all (Bw p (L.take n))=true:=rZ λk hk=>oc k (by omega);have e2:(ayq p.rows.length).all (Hn p (L.take n))=true:=rZ λk hk=>or' k (by omega);have e3:kY p (s.x.take n)=true:=by unfold kY;rw[holds_of hn hm hN hv h.kx hX hf];simp[xl];omega
 rw[e1,e2,e3,hn,g];generalize dN (bC p n m N) s j m*yD up 1=t at *;have lt:(L.take n).length=n:=by rw[List.length_take,rl];omega
 rw[lt];unfold sg;by_cases hx:p.max=true
 ·rw[if_pos hx,hx];have a1:(0:Rat) < -1*t:=by grind
  have a2:¬(-1*t=0):=by grind
  simp[a1,a2]
 ·have ah:p.max=false:=by simpa using hx
  rw[if_neg hx,ah];have b1:(1:Rat)*t=t:=by grind
  rw[b1];have a1:¬(0:Rat)<t:=by grind
  have a2:¬(t=0):=by grind
  simp[a1,a2]
theorem Qw(hn:p.ai.length=n)(hm:p.rows.length=m)(hN:n+m=N)(h:Tv (bC p n m N)):jb p=true:=by
 obtain⟨k,hk,g1,g2,g3⟩:=h;replace hk:k<N:=hk;by_cases q:k<n
 ·rw[o7 hn hm hN q]at g1 g3;rw[mN hn hm hN q]at g2 g3;exact Bl (j:=k) (by omega) (by unfold jN;rw[g1,g2];simpa using g3)
 ·obtain⟨i,rfl⟩:∃i,k=n+i:=⟨k - n,by omega⟩;rw[py hn hm hN (by omega)]at g1 g3;rw[mH hn hm hN (by omega)]at g2 g3;exact yb (j:=i) (by omega) (by unfold jN;rw[g1,g2];simpa using g3)
theorem NF(hn:p.ai.length=n)(hm:p.rows.length=m)(hN:n+m=N)(hv:bA p=0){s:Tb}{cl:kB}(h:qy (bC p n m N) (Kp p n m) s cl):uw p cl=true:=by
 obtain⟨_,ac,h⟩:=h;have xl:s.x.length=N:=ac.t.x;have hX:∀k,k<n->gt (s.x.take n) k=gt s.x k:=λk hk=>by simp[gt,hk]
 rcases h with⟨cr,rfl⟩ | ⟨_,i,aa,st,rfl⟩ | ⟨_,hf,hb,rfl⟩ | ⟨_,hf,j,up,he,rfl⟩
 ·rw[T5 rfl];unfold Li.nH;simp[Qw hn hm hN cr]
 ·rw[T5 rfl];have aj:0<m:=by have:=st.1;replace this:i<m:=this;omega
  have fk:=RQ hn hm hN ac st (y:=(ayq m).map (BP (bC p n m N) s i aa)) λq hq=>by rw[aV _ hq]
  unfold Li.nH;show((decide (([]:List Rat).length=0)&&decide (([]:List Rat).length=0)&&decide ((0:Rat)=0))&&(if((ayq m).map (BP (bC p n m N) s i aa)).length=0 then jb p else decide (((ayq m).map (BP (bC p n m N) s i aa)).length=p.rows.length)&&ym p ((ayq m).map (BP (bC p n m N) s i aa))))=true;rw[fk];simp[hm];omega
 ·rw[ac5 rfl];obtain⟨l1,l2⟩:=Pv hn hm hN hv ac hf hb (y:=(ayq m).map (vP (bC p n m N) s)) (X:=s.x.take n) (λi hi=>by rw[aV _ hi];exact Nq hN ac hi) hX;have e3:kY p (s.x.take n)=true:=by
   unfold kY;rw[holds_of hn hm hN hv ac.kx hX hf];simp[xl];omega
  unfold tu;show((kY p (s.x.take n)&&decide (((ayq m).map (vP (bC p n m N) s)).length=p.rows.length)&&decide (([]:List Rat).length=0))&&((nO p ((ayq m).map (vP (bC p n m N) s))).has&&decide (gO p (s.x.take n) p.ai.length=gO p (s.x.take n) n)&&decide ((nO p ((ayq m).map (vP (bC p n m N) s))).at'=gO p (s.x.take n) p.ai.length)))=true;rw[l1,l2,e3,hn];simp[hm]
 ·rw[abT rfl];exact We hn hm hN hv ac hf he
end
end Go.Sx

