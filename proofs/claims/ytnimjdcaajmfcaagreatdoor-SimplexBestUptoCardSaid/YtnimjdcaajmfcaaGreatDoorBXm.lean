/- A text of the prover's own. -/
import Derived.Test.YtnimjdcaajmfcaaGreatDoorBXi
open Nat renaming add_sub_cancel_left->avY,le_refl->asN
open Rat renaming zero_mul->avq,le_refl->avH,mul_le_mul_of_nonneg_left->avN,mul_zero->avr,mul_one->avZ,add_zero->avG
open Bool renaming false_eq_true->avg
open List renaming range->ati
namespace Go.Sx
open Go Go.Sv Go.Pl Go.Proofs Go.Tb Go.Ut Go.Mx Go.Li Go.Dt
theorem Co{f:Nat->Rat}:∀n,bW f n=aH f n
 | 0=>rfl
 | n+1=>by simp only[bW,aH];rw[Co n]
theorem wZ{f g:Nat->Rat}(n:Nat)(h:∀i,i<n->f i<=g i):aH f n<=aH g n:=by
 have:=yL (f:=λi=>g i - f i) n λi hi=>by have:=h i hi;grind
 rw[jY]at this;grind
def OT(p:aB)(n:Nat)(x:List Rat)(k:Nat):Rat:=if k<n then gt x k else fY p x (k - n)
theorem ajX{p:aB}{n m:Nat}(hn:p.ab.length=n)(hm:p.rows.length=m)(hv:bh p=0)(x:List Rat):Kp p n m (OT p n x):=λi hi=>by
 have h:=xp (mX hv (by omega:i<p.rows.length)) x;have e:OT p n x (n+i)=fY p x i:=by unfold OT;rw[if_neg (by omega),avY]
 rw[e];unfold fY;rw[<-h,Co,hn];exact aQ _ λk hk=>by unfold OT;rw[if_pos hk];grind
theorem ajD{p:aB}{n m N:Nat}(hn:p.ab.length=n)(hm:p.rows.length=m)(hN:n+m=N){x:List Rat}(h:dK p x false=true):∀k,k<N->tm (gt (bV p n m N).low k) (OT p n x k)∧ta (gt (bV p n m N).high k) (OT p n x k):=λk hk=>by
 have gl:gt (bV p n m N).low k=if k<n then(gt p.ab k).low else(gt p.rows (k - n)).low:=by show gt (gO p m) k=_;exact qt hn hm (by omega)
 have gh:gt (bV p n m N).high k=if k<n then(gt p.ab k).high else(gt p.rows (k - n)).high:=by show gt (dF p m) k=_;exact mP hn hm (by omega)
 rw[gl,gh];unfold OT;by_cases q:k<n
 ·rw[if_pos q,if_pos q,if_pos q];exact kK.1 (kP h (j:=k) (by omega))
 ·rw[if_neg q,if_neg q,if_neg q];exact kK.1 (m5 h (i:=k - n) (by omega))
theorem II{p:aB}{n m N:Nat}(hn:p.ab.length=n)(hN:n+m=N){x:List Rat}{z:Nat->Rat}(hz:∀k,k<n->z k=gt x k):obj (bV p n m N) z=if p.max=true then -(dX p x n - p.shift) else dX p x n - p.shift:=by
 have e:aH (λk=>uw p n k*z k) N=dX p x n - p.shift:=by
  rw[tZ,Co];have:aH (λk=>uw p n k*z k) N=aH (λk=>gt x k*(gt p.ab k).cost) n:=by rw[tq (m:=n) N (by omega) (λk h1 _=>by unfold uw;rw[if_neg (by omega),avq])];exact aQ _ λk hk=>by unfold uw;rw[if_pos hk,hz k hk];grind
  rw[this];grind
 unfold obj;by_cases hm:p.max=true
 ·rw[if_pos hm,<-e,<-xK];exact aQ _ λk hk=>by rw[pW (N:=N) hk,if_pos hm];grind
 ·rw[if_neg hm,<-e];exact aQ _ λk hk=>by rw[pW (N:=N) hk,if_neg hm]
theorem Mm{c:Tc}{K:(Nat->Rat)->Prop}{s:Tb}(h:fo c K s){i:Nat}{aa:Bool}(st:Ds c s i aa){z:Nat->Rat}(hz:K z)(hb:∀k,k<c.N->tm (gt c.low k) (z k)∧ta (gt c.high k) (z k)):False:=by
 obtain⟨hi,s1,s2⟩:=st;have ez:=(h.d.sat z).1 hz i hi;have ex:=h.xb i hi;have bb:=hb _ (h.d.bl i hi);cases aa with
 | true =>
  obtain⟨⟨g1,g2⟩,g3⟩:=s1 rfl;have le:aH (λk=>gt (gt s.R i) k*z k) c.N<=aH (λk=>gt (gt s.R i) k*gt s.x k) c.N:=wZ c.N λk hk=>by
   by_cases hw:gt s.wh k=1
   ·obtain⟨q,hq,rfl⟩:=(h.w k hk).1 hw;rw[h.d.z0 i q hi hq,avq,avq];exact avH
   ·obtain⟨a1,a2⟩:=g3 k hk hw;have bk:=hb k hk;by_cases p1:0<gt (gt s.R i) k
    ·obtain⟨c1,c2⟩:=a1 p1;have:=bk.2 c1;exact avN (by grind) (by grind)
    ·by_cases p2:gt (gt s.R i) k<0
     ·obtain⟨c1,c2⟩:=a2 p2;have:=bk.1 c1;have:=avN (show gt s.x k<=z k by grind) (show 0 <= -(gt (gt s.R i) k) by grind);grind
     ·have:gt (gt s.R i) k=0:=by grind
      rw[this,avq,avq];exact avH
  have:=bb.1 g1;grind
 | false =>
  obtain⟨⟨g1,g2⟩,g3⟩:=s2 rfl;have le:aH (λk=>gt (gt s.R i) k*gt s.x k) c.N<=aH (λk=>gt (gt s.R i) k*z k) c.N:=wZ c.N λk hk=>by
   by_cases hw:gt s.wh k=1
   ·obtain⟨q,hq,rfl⟩:=(h.w k hk).1 hw;rw[h.d.z0 i q hi hq,avq,avq];exact avH
   ·obtain⟨a1,a2⟩:=g3 k hk hw;have bk:=hb k hk;by_cases p1:0<gt (gt s.R i) k
    ·obtain⟨c1,c2⟩:=a2 p1;have:=bk.1 c1;exact avN (by grind) (by grind)
    ·by_cases p2:gt (gt s.R i) k<0
     ·obtain⟨c1,c2⟩:=a1 p2;have:=bk.2 c1;have:=avN (show z k<=gt s.x k by grind) (show 0 <= -(gt (gt s.R i) k) by grind);grind
     ·have:gt (gt s.R i) k=0:=by grind
      rw[this,avq,avq];exact avH
  have:=bb.2 g1;grind
theorem OP{c:Tc}{K:(Nat->Rat)->Prop}{s:Tb}(h:fo c K s)(hb:Cf c s){z:Nat->Rat}(hz:K z)(hi:∀k,k<c.N->tm (gt c.low k) (z k)∧ta (gt c.high k) (z k)):obj c (gt s.x)<=obj c z:=by
 rw[qc h.d h.kx,qc h.d hz];refine wZ c.N λk hk=>?_;by_cases hw:gt s.wh k=1
 ·have:iA c s k=0:=if_pos ((h.w k hk).1 hw);rw[this,avq,avq];exact avH
 ·have e:iA c s k=dL c s k c.m:=if_neg λg=>hw ((h.w k hk).2 g);rw[e];have nb:=hb k hk hw;have bk:=hi k hk;by_cases p1:0<dL c s k c.m
  ·obtain⟨c1,c2⟩:=r6 (b:=gt c.low k) (x:=gt s.x k) λq=>nb (.inr ⟨p1,q⟩);have:=bk.1 c1;exact avN (by grind) (by grind)
  ·by_cases p2:dL c s k c.m<0
   ·obtain⟨c1,c2⟩:=rP (b:=gt c.high k) (x:=gt s.x k) λq=>nb (.inl ⟨p2,q⟩);have:=bk.2 c1;have:=avN (show z k<=gt s.x k by grind) (show 0 <= -(dL c s k c.m) by grind);grind
   ·have:dL c s k c.m=0:=by grind
    rw[this,avq,avq];exact avH
theorem Ll{p:aB}{n m N:Nat}(hn:p.ab.length=n)(hm:p.rows.length=m)(hN:n+m=N)(hv:bh p=0){s:Tb}{cl:j0}(h:rH (bV p n m N) (Kp p n m) s cl){x:List Rat}(hx:dK p x false=true) :
  cl.kind=3∨(cl.kind=1∧(dX p x n=cl.value∨decide (dX p x n<cl.value)=p.max)):=by
 have kz:=ajX hn hm hv x;have iz:=ajD hn hm hN hx;obtain⟨_,ad,h⟩:=h;rcases h with⟨⟨k,hk,g1,g2,g3⟩,rfl⟩ | ⟨_,i,aa,st,rfl⟩ | ⟨_,hf,hb,rfl⟩ | ⟨_,_,j,up,_,rfl⟩
 ·have:=iz k hk;have a:=this.1 g1;have b:=this.2 g2;grind
 ·exact(Mm ad st kz iz).elim
 ·right;refine⟨rfl,?_⟩;have le:=OP ad hb kz iz;have e1:=II (p:=p) (m:=m) hn hN (x:=x) (z:=OT p n x) λk hk=>by unfold OT;rw[if_pos hk]
  have e2:=II (p:=p) (m:=m) hn hN (x:=s.x.take n) (z:=gt s.x) λk hk=>by simp[gt,hk]
  rw[e1,e2]at le;show dX p x n=dX p (s.x.take n) n∨decide (dX p x n<dX p (s.x.take n) n)=p.max;by_cases ag:p.max=true
  ·rw[if_pos ag,if_pos ag]at le;rw[ag];by_cases e:dX p x n=dX p (s.x.take n) n
   ·exact .inl e
   ·right;simp only[decide_eq_true_eq];grind
  ·rw[if_neg ag,if_neg ag]at le;have:p.max=false:=by simpa using ag
   rw[this];right;simp only[decide_eq_false_iff_not];grind
 ·exact .inl rfl
end Go.Sx
namespace Go.Sx
open Go Go.Sv Go.Pl Go.Proofs Go.Tb Go.Ut Go.Mx Go.Li Go.Dt
theorem oh(f:Nat->Rat)(n:Nat):∀m,aH f (n+m)=aH f n+aH (λi=>f (n+i)) m
 | 0=>by simp only[aH,Nat.add_zero];grind
 | m+1=>by show aH f (n+m)+f (n+m)=_;rw[oh f n m];simp only[aH];grind
section
variable {p:aB} {n m N:Nat}
theorem oF(hn:p.ab.length=n)(hm:p.rows.length=m)(hN:n+m=N){k:Nat}(h:k<n):gt (bV p n m N).low k=(gt p.ab k).low:=by show gt (gO p m) k=_;rw[qt hn hm (by omega),if_pos h]
theorem k8(hn:p.ab.length=n)(hm:p.rows.length=m)(hN:n+m=N){k:Nat}(h:k<n):gt (bV p n m N).high k=(gt p.ab k).high:=by show gt (dF p m) k=_;rw[mP hn hm (by omega),if_pos h]
theorem nG(hn:p.ab.length=n)(hm:p.rows.length=m)(hN:n+m=N){i:Nat}(h:i<m):gt (bV p n m N).low (n+i)=(gt p.rows i).low:=by show gt (gO p m) _=_;rw[qt hn hm (by omega),if_neg (by omega),avY]
theorem lV(hn:p.ab.length=n)(hm:p.rows.length=m)(hN:n+m=N){i:Nat}(h:i<m):gt (bV p n m N).high (n+i)=(gt p.rows i).high:=by show gt (dF p m) _=_;rw[mP hn hm (by omega),if_neg (by omega),avY]
theorem Ns(hn:p.ab.length=n)(hm:p.rows.length=m)(hv:bh p=0){z:Nat->Rat}(hz:Kp p n m z){X:List Rat}(hX:∀k,k<n->gt X k=z k){i:Nat}(hi:i<m):fY p X i=z (n+i):=by have h:=xp (mX hv (by omega:i<p.rows.length)) X;unfold fY;rw[<-h,Co,hn,hz i hi];exact aQ _ λk hk=>by rw[hX k hk];grind
theorem holds_of(hn:p.ab.length=n)(hm:p.rows.length=m)(hN:n+m=N)(hv:bh p=0){z:Nat->Rat}(hz:Kp p n m z){X:List Rat}(hX:∀k,k<n->gt X k=z k)(hf:∀k,k<N->tm (gt (bV p n m N).low k) (z k)∧ta (gt (bV p n m N).high k) (z k)):dK p X false=true:=by
 refine uY (λk hk=>?_) λi hi=>?_
 ·have b:=hf k (by omega);rw[oF hn hm hN (by omega),k8 hn hm hN (by omega)]at b;have:BY (gt X k) (gt p.ab k).low (gt p.ab k).high=true:=by
   rw[hX k (by omega)];exact kK.2 b
  unfold yW;rw[this];rfl
 ·have b:=hf (n+i) (by omega);rw[nG hn hm hN (by omega),lV hn hm hN (by omega),<-Ns hn hm hv hz hX (by omega:i<m)]at b;exact kK.2 b
def zU(p:aB)(n j k:Nat):Rat:=if k<n then(if k=j then 1 else 0) else cW (gt p.rows (k - n)).aC j
theorem abd{j:Nat}(hj:j<n):Kp p n m (zU p n j):=λi hi=>by rw[cu (p:=j) n hj (λk hk ac=>by unfold zU;rw[if_pos hk,if_neg ac,avr])];unfold zU;rw[if_neg (by omega),if_pos hj,if_pos rfl,avY,avZ]
theorem x6(hN:n+m=N){u:Nat->Rat}{j:Nat}(hj:j<n):aH (λk=>u k*zU p n j k) N=u j+aH (λi=>u (n+i)*cW (gt p.rows i).aC j) m:=by
 subst hN;rw[oh];congr 1
 ·rw[cu (p:=j) n hj (λk hk ac=>by unfold zU;rw[if_pos hk,if_neg ac,avr])];unfold zU;rw[if_pos hj,if_pos rfl,avZ]
 ·exact aQ _ λi hi=>by unfold zU;rw[if_neg (by omega),avY]
theorem Gt(p:aB)(y:List Rat)(j:Nat):∀i,dP p y j i=(gt p.ab j).cost - aH (λq=>gt y q*cW (gt p.rows q).aC j) i
 | 0=>by simp only[dP,aH];grind
 | i+1=>by simp only[dP,aH];rw[Gt p y j i];grind
theorem Da(hN:n+m=N){i:Nat}(hi:i<m):gt (bV p n m N).cost (n+i)=0:=by rw[pW (p:=p) (n:=n) (m:=m) (N:=N) (k:=n+i) (by omega)];unfold uw;rw[if_neg (show ¬n+i<n by omega)];split<;>grind
theorem DK(hN:n+m=N){j:Nat}(hj:j<n):gt (bV p n m N).cost j=if p.max=true then -(gt p.ab j).cost else(gt p.ab j).cost:=by rw[pW (p:=p) (n:=n) (m:=m) (N:=N) (k:=j) (by omega)];unfold uw;rw[if_pos hj]
theorem PM(hN:n+m=N){s:Tb}(h:u9 (Kp p n m) N m s.basic s.R){j:Nat}(hj:j<n):gt (bV p n m N).cost j=iA (bV p n m N) s j+aH (λi=>iA (bV p n m N) s (n+i)*cW (gt p.rows i).aC j) m:=by
 have e:=qc (c:=bV p n m N) (K:=Kp p n m) h (abd (m:=m) hj);have e1:obj (bV p n m N) (zU p n j)=gt (bV p n m N).cost j+aH (λi=>gt (bV p n m N).cost (n+i)*cW (gt p.rows i).aC j) m:=x6 hN hj;have e2:aH (λk=>iA (bV p n m N) s k*zU p n j k) N=_:=x6 hN hj;have z:aH (λi=>gt (bV p n m N).cost (n+i)*cW (gt p.rows i).aC j) m=0:=gy m λi hi=>by rw[Da hN hi,avq]
 rw[z,avG]at e1;rw[<-e1,e];exact e2
def sg(p:aB):Rat:=if p.max=true then -1 else 1
theorem LF(hN:n+m=N){s:Tb}(h:fo (bV p n m N) (Kp p n m) s){i:Nat}(hi:i<m):va (bV p n m N) s i=sg p*iA (bV p n m N) s (n+i):=by
 have w:=h.w (n+i) (show n+i<N by omega);unfold va sg;show(if gt s.wh (n+i)=1 then(0:Rat) else if p.max=true then -(dL (bV p n m N) s (n+i) m) else dL (bV p n m N) s (n+i) m)=_;by_cases q:gt s.wh (n+i)=1
 ·rw[if_pos q];have:iA (bV p n m N) s (n+i)=0:=if_pos (w.1 q);rw[this,avr]
 ·rw[if_neg q];have:iA (bV p n m N) s (n+i)=dL (bV p n m N) s (n+i) m:=if_neg λg=>q (w.2 g);rw[this];split<;>grind
theorem Hc(hN:n+m=N){s:Tb}(h:fo (bV p n m N) (Kp p n m) s){y:List Rat}(hy:∀i,i<m->gt y i=sg p*iA (bV p n m N) s (n+i)){j:Nat}(hj:j<n):dP p y j m=sg p*iA (bV p n m N) s j:=by
 have e:=PM hN h.d hj;rw[DK hN hj]at e;rw[Gt];have e2:aH (λq=>gt y q*cW (gt p.rows q).aC j) m=sg p*aH (λi=>iA (bV p n m N) s (n+i)*cW (gt p.rows i).aC j) m:=by rw[<-jm];exact aQ _ λi hi=>by rw[hy i hi];grind
 rw[e2];generalize aH (λi=>iA (bV p n m N) s (n+i)*cW (gt p.rows i).aC j) m=A at *;unfold sg;by_cases q:p.max=true
 ·rw[if_pos q]at e ⊢;grind
 ·rw[if_neg q]at e ⊢;grind
end
theorem Ck{s:Sp}{low high:Bo}{r v:Rat}(hs:s.hi.has=true)(h1:r<0->low.has=true∧low.at'=v)(h2:0<r->high.has=true∧high.at'=v):(eB s low high r).hi.has=true∧(eB s low high r).hi.at'=s.hi.at'+v*r:=by
 unfold eB;by_cases z:r=0
 ·rw[if_pos z,z];exact⟨hs,by grind⟩
 ·rw[if_neg z];by_cases g:r<0
  ·rw[if_pos g];obtain⟨a,b⟩:=h1 g;show(eU s.hi low r).has=true∧_;unfold eU;rw[if_pos ⟨hs,a⟩];exact⟨rfl,by show s.hi.at'+low.at'*r=_;rw[b]⟩
  ·rw[if_neg g];obtain⟨a,b⟩:=h2 (by grind);show(eU s.hi high r).has=true∧_;unfold eU;rw[if_pos ⟨hs,a⟩];exact⟨rfl,by show s.hi.at'+high.at'*r=_;rw[b]⟩
theorem Cy{s:Sp}{low high:Bo}{r v:Rat}(hs:s.lo.has=true)(h1:r<0->high.has=true∧high.at'=v)(h2:0<r->low.has=true∧low.at'=v):(eB s low high r).lo.has=true∧(eB s low high r).lo.at'=s.lo.at'+v*r:=by
 unfold eB;by_cases z:r=0
 ·rw[if_pos z,z];exact⟨hs,by grind⟩
 ·rw[if_neg z];by_cases g:r<0
  ·rw[if_pos g];obtain⟨a,b⟩:=h1 g;show(eU s.lo high r).has=true∧_;unfold eU;rw[if_pos ⟨hs,a⟩];exact⟨rfl,by show s.lo.at'+high.at'*r=_;rw[b]⟩
  ·rw[if_neg g];obtain⟨a,b⟩:=h2 (by grind);show(eU s.lo low r).has=true∧_;unfold eU;rw[if_pos ⟨hs,a⟩];exact⟨rfl,by show s.lo.at'+low.at'*r=_;rw[b]⟩
theorem Ov{c:Tc}{K:(Nat->Rat)->Prop}{s:Tb}(h:fo c K s)(hf:kW c s)(hb:Cf c s){k:Nat}(hk:k<c.N):(iA c s k<0->(gt c.high k).has=true∧(gt c.high k).at'=gt s.x k)∧(0<iA c s k->(gt c.low k).has=true∧(gt c.low k).at'=gt s.x k):=by
 have fk:=hf k hk;by_cases hw:gt s.wh k=1
 ·have:iA c s k=0:=if_pos ((h.w k hk).1 hw);rw[this];exact⟨λg=>by grind,λg=>by grind⟩
 ·have e:iA c s k=dL c s k c.m:=if_neg λg=>hw ((h.w k hk).2 g);rw[e];have nb:=hb k hk hw;refine⟨λg=>?_,λg=>?_⟩
  ·obtain⟨c1,c2⟩:=rP (b:=gt c.high k) (x:=gt s.x k) λq=>nb (.inl ⟨g,q⟩);have:=fk.2 c1;exact⟨c1,by grind⟩
  ·obtain⟨c1,c2⟩:=r6 (b:=gt c.low k) (x:=gt s.x k) λq=>nb (.inr ⟨g,q⟩);have:=fk.1 c1;exact⟨c1,by grind⟩
section
variable {p:aB} {n m N:Nat}
theorem Lg(hn:p.ab.length=n)(hm:p.rows.length=m)(hN:n+m=N)(hv:bh p=0){s:Tb}(h:fo (bV p n m N) (Kp p n m) s)(hf:kW (bV p n m N) s)(hb:Cf (bV p n m N) s){y:List Rat}(hy:∀i,i<m->gt y i=sg p*iA (bV p n m N) s (n+i)){X:List Rat}(hX:∀k,k<n->gt X k=gt s.x k) :
  (l6 p y).has=true∧(l6 p y).at'=dX p X n:=by
 have xr:=λi (hi:i<m)=>Ns hn hm hv h.kx hX hi;have bt:=λk (hk:k<N)=>Ov h hf hb (k:=k) hk;have FM:p.shift+bW (λk=>gt y k*fY p X k) m+bW (λk=>gt X k*dP p y k m) n=dX p X n:=by have e:=N6 (jF hv).2.2 X y m (by omega);rw[hn]at e;rw[tZ,e];grind
 by_cases hx:p.max=true
 ·have af:sg p = -1:=if_pos hx;rw[af]at hy;have dp:=λj (hj:j<n)=>Hc hN h (y:=y) (by rw[af];exact hy) hj;rw[af]at dp;have r1:∀i,i<=m->(zK p y i).hi.has=true∧(zK p y i).hi.at'=p.shift+bW (λk=>gt y k*fY p X k) i:=λi=>by
   induction i with
   | zero=>intro _;exact⟨rfl,by show p.shift=_;simp only[bW];grind⟩
   | succ i ih =>
    intro hi;obtain⟨a1,a2⟩:=ih (by omega);have b:=bt (n+i) (by omega);rw[nG hn hm hN (by omega),lV hn hm hN (by omega),<-xr i (by omega)]at b;have yi:=hy i (by omega);obtain⟨c1,c2⟩:=Ck (s:=zK p y i) (low:=(gt p.rows i).low) (high:=(gt p.rows i).high) (r:=gt y i) (v:=fY p X i) a1 (λg=>b.2 (by grind)) λg=>b.1 (by grind);exact⟨c1,by show(eB _ _ _ _).hi.at'=_;rw[c2,a2];simp only[bW];grind⟩
  have r2:∀j,j<=n->(zJ p y j).hi.has=true∧(zJ p y j).hi.at'=p.shift+bW (λk=>gt y k*fY p X k) m+bW (λk=>gt X k*dP p y k m) j:=λj=>by
   induction j with
   | zero =>
    intro _;obtain⟨a1,a2⟩:=r1 m (asN _);show(zK p y p.rows.length).hi.has=true∧(zK p y p.rows.length).hi.at'=_;rw[hm];exact⟨a1,by rw[a2];simp only[bW];grind⟩
   | succ j ih =>
    intro hj;obtain⟨a1,a2⟩:=ih (by omega);have b:=bt j (by omega);rw[oF hn hm hN (by omega),k8 hn hm hN (by omega),<-hX j (by omega)]at b;have dj:=dp j (by omega);obtain⟨c1,c2⟩:=Ck (s:=zJ p y j) (low:=(gt p.ab j).low) (high:=(gt p.ab j).high) (r:=dP p y j p.rows.length) (v:=gt X j) a1 (λg=>b.2 (by rw[hm]at g;grind)) λg=>b.1 (by rw[hm]at g;grind);exact⟨c1,by show(eB _ _ _ _).hi.at'=_;rw[c2,a2,hm];simp only[bW];grind⟩
  have:=r2 n (asN _);unfold l6;rw[if_pos hx,hn];exact⟨this.1,by rw[this.2,FM]⟩
 ·have af:sg p=1:=if_neg hx;rw[af]at hy;have dp:=λj (hj:j<n)=>Hc hN h (y:=y) (by rw[af];exact hy) hj;rw[af]at dp;have r1:∀i,i<=m->(zK p y i).lo.has=true∧(zK p y i).lo.at'=p.shift+bW (λk=>gt y k*fY p X k) i:=λi=>by
   induction i with
   | zero=>intro _;exact⟨rfl,by show p.shift=_;simp only[bW];grind⟩
   | succ i ih =>
    intro hi;obtain⟨a1,a2⟩:=ih (by omega);have b:=bt (n+i) (by omega);rw[nG hn hm hN (by omega),lV hn hm hN (by omega),<-xr i (by omega)]at b;have yi:=hy i (by omega);obtain⟨c1,c2⟩:=Cy (s:=zK p y i) (low:=(gt p.rows i).low) (high:=(gt p.rows i).high) (r:=gt y i) (v:=fY p X i) a1 (λg=>b.1 (by grind)) λg=>b.2 (by grind);exact⟨c1,by show(eB _ _ _ _).lo.at'=_;rw[c2,a2];simp only[bW];grind⟩
  have r2:∀j,j<=n->(zJ p y j).lo.has=true∧(zJ p y j).lo.at'=p.shift+bW (λk=>gt y k*fY p X k) m+bW (λk=>gt X k*dP p y k m) j:=λj=>by
   induction j with
   | zero =>
    intro _;obtain⟨a1,a2⟩:=r1 m (asN _);show(zK p y p.rows.length).lo.has=true∧(zK p y p.rows.length).lo.at'=_;rw[hm];exact⟨a1,by rw[a2];simp only[bW];grind⟩
   | succ j ih =>
    intro hj;obtain⟨a1,a2⟩:=ih (by omega);have b:=bt j (by omega);rw[oF hn hm hN (by omega),k8 hn hm hN (by omega),<-hX j (by omega)]at b;have dj:=dp j (by omega);obtain⟨c1,c2⟩:=Cy (s:=zJ p y j) (low:=(gt p.ab j).low) (high:=(gt p.ab j).high) (r:=dP p y j p.rows.length) (v:=gt X j) a1 (λg=>b.1 (by rw[hm]at g;grind)) λg=>b.2 (by rw[hm]at g;grind);exact⟨c1,by show(eB _ _ _ _).lo.at'=_;rw[c2,a2,hm];simp only[bW];grind⟩
  have:=r2 n (asN _);unfold l6;rw[if_neg hx,hn];exact⟨this.1,by rw[this.2,FM]⟩
end
end Go.Sx
namespace Go.Sx
open Go Go.Sv Go.Pl Go.Proofs Go.Tb Go.Ut Go.Mx Go.Li Go.Dt
theorem Be{f g:Nat->Rat}{q:Nat}:∀n,q<n->(∀i,i<n->f i<=g i)->f q<g q->aH f n<aH g n
 | 0,h,_,_=>by omega
 | n+1,h,h1,h2=>by
  simp only[aH];by_cases e:q=n
  ·subst e;have:=wZ (f:=f) (g:=g) q λi hi=>h1 i (by omega);grind
  ·have:=Be n (by omega) (λi hi=>h1 i (by omega)) h2;have:=h1 n (by omega);grind
section
variable {p:aB} {n m N:Nat}
def uF(s:Tb)(i:Nat)(σ:Rat)(k:Nat):Rat:=(if k=gt s.basic i then σ else 0) - σ*gt (gt s.R i) k
theorem Hv{K:(Nat->Rat)->Prop}{s:Tb}(h:u9 K N m s.basic s.R){i:Nat}(hi:i<m)(σ:Rat){z:Nat->Rat}(hz:K z):aH (λk=>uF s i σ k*z k) N=0:=by
 have e:=(h.sat z).1 hz i hi;have e1:aH (λk=>uF s i σ k*z k) N=aH (λk=>(if k=gt s.basic i then σ else 0)*z k) N - aH (λk=>σ*(gt (gt s.R i) k*z k)) N:=by rw[<-jY];exact aQ _ λk hk=>by unfold uF;grind
 rw[e1,jm,<-e,cu (p:=gt s.basic i) N (h.bl i hi) (λk _ hk=>by rw[if_neg hk,avq]),if_pos rfl];grind
def beta(c:Tc)(u:Nat->Rat)(k:Nat):Rat:=if u k<0 then(gt c.high k).at' else(gt c.low k).at'
theorem PB(hn:p.ab.length=n)(hm:p.rows.length=m)(hN:n+m=N){s:Tb}(h:fo (bV p n m N) (Kp p n m) s){i:Nat}{aa:Bool}(st:Ds (bV p n m N) s i aa){y:List Rat}(hy:∀q,q<m->gt y q=zZ (bV p n m N) s i aa q):pJ p y=true:=by
 obtain⟨hi,s1,s2⟩:=st;replace hi:i<m:=hi;obtain⟨σ,hσ⟩:∃σ:Rat,σ=if aa=true then 1 else -1:=⟨_,rfl⟩;have dl:=h.d.bl i hi
 -- what is known of each column
 have key:∀k,k<N->(uF s i σ k<0->(gt (bV p n m N).high k).has=true∧uF s i σ k*gt s.x k<=uF s i σ k*(gt (bV p n m N).high k).at')∧(0<uF s i σ k->(gt (bV p n m N).low k).has=true∧uF s i σ k*gt s.x k<=uF s i σ k*(gt (bV p n m N).low k).at'):=λk hk=>by
  by_cases hw:gt s.wh k=1
  ·obtain⟨q,hq,e⟩:=(h.w k hk).1 hw;have z:gt (gt s.R i) k=0:=by rw[<-e];exact h.d.z0 i q hi hq
   unfold uF;rw[z];by_cases eb:k=gt s.basic i
   ·rw[if_pos eb];cases aa with
    | true =>
     obtain⟨⟨g1,g2⟩,_⟩:=s1 rfl;simp only[if_true]at hσ;rw[<-eb]at g1 g2;subst hσ;exact⟨λg=>by grind,λ_=>⟨g1,by grind⟩⟩
    | false =>
     obtain⟨⟨g1,g2⟩,_⟩:=s2 rfl;simp only[avg,if_false]at hσ;rw[<-eb]at g1 g2;subst hσ;exact⟨λ_=>⟨g1,by grind⟩,λg=>by grind⟩
   ·rw[if_neg eb];exact⟨λg=>by grind,λg=>by grind⟩
  ·have nb:k≠gt s.basic i:=λe=>hw ((h.w k hk).2 ⟨i,hi,e.symm⟩);unfold uF;rw[if_neg nb];cases aa with
   | true =>
    simp only[if_true]at hσ;obtain⟨a1,a2⟩:=(s1 rfl).2 k hk hw;subst hσ;refine⟨λg=>?_,λg=>?_⟩
    ·obtain⟨c1,c2⟩:=a1 (by grind);have:=avN c2 (show 0<=gt (gt s.R i) k by grind);exact⟨c1,by grind⟩
    ·obtain⟨c1,c2⟩:=a2 (by grind);have:=avN c2 (show 0 <= -(gt (gt s.R i) k) by grind);exact⟨c1,by grind⟩
   | false =>
    simp only[avg,if_false]at hσ;obtain⟨a1,a2⟩:=(s2 rfl).2 k hk hw;subst hσ;refine⟨λg=>?_,λg=>?_⟩
    ·obtain⟨c1,c2⟩:=a1 (by grind);have:=avN c2 (show 0 <= -(gt (gt s.R i) k) by grind);exact⟨c1,by grind⟩
    ·obtain⟨c1,c2⟩:=a2 (by grind);have:=avN c2 (show 0<=gt (gt s.R i) k by grind);exact⟨c1,by grind⟩
 have strict:uF s i σ (gt s.basic i)*gt s.x (gt s.basic i)<uF s i σ (gt s.basic i)*beta (bV p n m N) (uF s i σ) (gt s.basic i):=by
  have z:gt (gt s.R i) (gt s.basic i)=0:=h.d.z0 i i hi hi;have eu:uF s i σ (gt s.basic i)=σ:=by unfold uF;rw[if_pos rfl,z];grind
  unfold beta;rw[eu];cases aa with
  | true =>
   obtain⟨⟨g1,g2⟩,_⟩:=s1 rfl;simp only[if_true]at hσ;subst hσ;rw[if_neg (by decide)];grind
  | false =>
   obtain⟨⟨g1,g2⟩,_⟩:=s2 rfl;simp only[avg,if_false]at hσ;subst hσ;rw[if_pos (by decide)];grind
 have pos:0<aH (λk=>uF s i σ k*beta (bV p n m N) (uF s i σ) k) N:=by
  have z0:aH (λk=>uF s i σ k*gt s.x k) N=0:=Hv h.d hi σ h.kx;rw[<-z0];refine Be N dl (λk hk=>?_) strict;unfold beta;by_cases g:uF s i σ k<0
  ·rw[if_pos g];exact((key k hk).1 g).2
  ·rw[if_neg g];by_cases g2:0<uF s i σ k
   ·exact((key k hk).2 g2).2
   ·have:uF s i σ k=0:=by grind
    rw[this,avq,avq];exact avH
 have yu:∀q,q<m->gt y q=uF s i σ (n+q):=λq hq=>by
  rw[hy q hq];unfold zZ Fx uF;show(if aa=true then(if gt s.basic i=n+q then(1:Rat) else -(gt (gt s.R i) (n+q))) else -(if gt s.basic i=n+q then(1:Rat) else -(gt (gt s.R i) (n+q))))=_;by_cases e:gt s.basic i=n+q
  ·have z:gt (gt s.R i) (n+q)=0:=by rw[<-e];exact h.d.z0 i i hi hi
   rw[if_pos e,if_pos e.symm,z,hσ];cases aa
   ·simp only[avg,if_false];grind
   ·simp only[if_true];grind
  ·rw[if_neg e,if_neg (show ¬n+q=gt s.basic i from λg=>e g.symm),hσ];cases aa
   ·simp only[avg,if_false];grind
   ·simp only[if_true];grind
 have dj:∀j,j<n->dP (free p) y j m=uF s i σ j:=λj hj=>by
  rw[Gt];have e0:(gt (free p).ab j).cost=0:=by rw[qM (by omega)]
  rw[e0];have e1:aH (λk=>uF s i σ k*zU p n j k) N=0:=Hv h.d hi σ (abd (p:=p) (m:=m) hj);rw[x6 hN hj]at e1;have e2:aH (λq=>gt y q*cW (gt (free p).rows q).aC j) m=aH (λq=>uF s i σ (n+q)*cW (gt p.rows q).aC j) m:=aQ _ λq hq=>by rw[yu q hq];rfl
  rw[e2];grind
 have r1:∀q,q<=m->(FW p y q).lo.has=true∧(FW p y q).lo.at'=aH (λq=>uF s i σ (n+q)*beta (bV p n m N) (uF s i σ) (n+q)) q:=λq=>by
  induction q with
  | zero=>intro _;exact⟨rfl,rfl⟩
  | succ q ih =>
   intro hq;obtain⟨a1,a2⟩:=ih (by omega);have b:=key (n+q) (by omega);have eb:beta (bV p n m N) (uF s i σ) (n+q)=if uF s i σ (n+q)<0 then(gt p.rows q).high.at' else(gt p.rows q).low.at':=by unfold beta;rw[nG hn hm hN (by omega),lV hn hm hN (by omega)]
   rw[nG hn hm hN (by omega),lV hn hm hN (by omega)]at b;obtain⟨c1,c2⟩:=Cy (s:=FW p y q) (low:=(gt p.rows q).low) (high:=(gt p.rows q).high) (r:=gt y q) (v:=beta (bV p n m N) (uF s i σ) (n+q)) a1 (λg=>by
    rw[yu q (by omega)]at g;rw[eb,if_pos g];exact⟨(b.1 g).1,rfl⟩) λg=>by
    rw[yu q (by omega)]at g;rw[eb,if_neg (by grind)];exact⟨(b.2 g).1,rfl⟩
   exact⟨c1,by show(eB _ _ _ _).lo.at'=_;rw[c2,a2,yu q (by omega)];simp only[aH];grind⟩
 have r2:∀j,j<=n->(IB p y j).hi.has=true∧(IB p y j).hi.at' = -aH (λk=>uF s i σ k*beta (bV p n m N) (uF s i σ) k) j:=λj=>by
  induction j with
  | zero=>intro _;exact⟨rfl,by show(0:Rat) = -(0:Rat);grind⟩
  | succ j ih =>
   intro hj;obtain⟨a1,a2⟩:=ih (by omega);have b:=key j (by omega);have eb:beta (bV p n m N) (uF s i σ) j=if uF s i σ j<0 then(gt p.ab j).high.at' else(gt p.ab j).low.at':=by unfold beta;rw[oF hn hm hN (by omega),k8 hn hm hN (by omega)]
   rw[oF hn hm hN (by omega),k8 hn hm hN (by omega)]at b;have ed : -(dP (free p) y j p.rows.length) = -(uF s i σ j):=by rw[hm,dj j (by omega)]
   obtain⟨c1,c2⟩:=Ck (s:=IB p y j) (low:=(gt p.ab j).low) (high:=(gt p.ab j).high) (r := -(dP (free p) y j p.rows.length)) (v:=beta (bV p n m N) (uF s i σ) j) a1 (λg=>by
    rw[ed]at g;rw[eb,if_neg (by grind)];exact⟨(b.2 (by grind)).1,rfl⟩) λg=>by
    rw[ed]at g;rw[eb,if_pos (by grind)];exact⟨(b.1 (by grind)).1,rfl⟩
   exact⟨c1,by show(eB _ _ _ _).hi.at'=_;rw[c2,a2,ed];simp only[aH];grind⟩
 obtain⟨a1,a2⟩:=r1 m (asN _);obtain⟨b1,b2⟩:=r2 n (asN _);unfold pJ An;rw[hm,hn,a1,b1,a2,b2];have sp:aH (λk=>uF s i σ k*beta (bV p n m N) (uF s i σ) k) N=aH (λk=>uF s i σ k*beta (bV p n m N) (uF s i σ) k) n+aH (λq=>uF s i σ (n+q)*beta (bV p n m N) (uF s i σ) (n+q)) m:=by rw[<-hN];exact oh _ n m
 rw[sp]at pos;simp only[Bool.and_self,Bool.true_and,decide_eq_true_eq];grind
end
end Go.Sx
namespace Go.Sx
open Go Go.Sv Go.Pl Go.Proofs Go.Tb Go.Ut Go.Mx Go.Li Go.Dt
theorem Hx{N k:Nat}(h:k<N):gt (List.replicate N (0:Rat)) k=0:=by simp[gt,h]
theorem abJ{p:aB}{c:j0}(h:c.kind=1):ri p c=pP p c:=by unfold ri;rw[if_pos h]
theorem Rw{p:aB}{c:j0}(h:c.kind=2):ri p c=Li.lQ p c:=by unfold ri;rw[if_neg (by rw[h];decide),if_pos h]
theorem W7{p:aB}{c:j0}(h:c.kind=3):ri p c=rh p c:=by unfold ri;rw[if_neg (by rw[h];decide),if_neg (by rw[h];decide),if_pos h]
section
variable {c:Tc} {K:(Nat->Rat)->Prop} {s:Tb} {j:Nat} {y:Rat}
theorem mI(h:fo c K s){k:Nat}(hk:k<c.N)(ac:k≠j)(hb:∀i,i<c.m->gt s.basic i≠k):∀i,i<=c.m->gt (gA c s j y i) k=0
 | 0,_=>by simp only[gA];rw[bG (by simpa using hk),if_neg (λe=>ac e.symm),Hx hk]
 | i+1,hi=>by simp only[gA];rw[bG (by rw[j6];exact hk),if_neg (hb i (by omega))];exact mI h hk ac hb i (by omega)
theorem tD(h:fo c K s)(hj:j<c.N)(hb:∀i,i<c.m->gt s.basic i≠j):∀i,i<=c.m->gt (gA c s j y i) j=y
 | 0,_=>by simp only[gA];rw[bG (by simpa using hj),if_pos rfl]
 | i+1,hi=>by simp only[gA];rw[bG (by rw[j6];exact hj),if_neg (hb i (by omega))];exact tD h hj hb i (by omega)
theorem pX(h:fo c K s)(hj:j<c.N)(hb:∀i,i<c.m->gt s.basic i≠j){r:Nat}(hr:r<c.m):∀i,i<=c.m->gt (gA c s j y i) (gt s.basic r)=if r<i then gt (gt s.R r) j*y else 0
 | 0,_=>by have hl:=h.d.bl r hr;simp only[gA];rw[bG (by simpa using hl),if_neg (λe=>hb r hr e.symm),if_neg (by omega),Hx hl]
 | i+1,hi=>by
  simp only[gA];rw[bG (by rw[j6];exact h.d.bl r hr)];by_cases e:i=r
  ·subst e;rw[if_pos rfl,if_pos (by omega)]
  ·rw[if_neg (λq=>e (h.d.inj i r (by omega) hr q)),pX h hj hb hr i (by omega)];by_cases q:r<i
   ·rw[if_pos q,if_pos (by omega)]
   ·rw[if_neg q,if_neg (by omega)]
theorem Rq(h:fo c K s)(hj:j<c.N)(hw:gt s.wh j≠1):K (gt (gA c s j y c.m)):=(h.d.sat _).2 λr hr=>by
 have hb:=h.nb hj hw;rw[pX h hj hb hr c.m (asN _),if_pos hr];rw[cu (p:=j) c.N hj (λk hk ac=>?_),tD h hj hb c.m (asN _)];by_cases ae:∃q,q<c.m∧gt s.basic q=k
 ·obtain⟨q,hq,rfl⟩:=ae;rw[h.d.z0 r q hr hq,avq]
 ·rw[mI h hk ac (λq hq e=>ae ⟨q,hq,e⟩) c.m (asN _),avr]
theorem Oj(h:fo c K s)(hj:j<c.N)(hw:gt s.wh j≠1):obj c (gt (gA c s j y c.m))=dL c s j c.m*y:=by
 have hb:=h.nb hj hw;rw[qc h.d (Rq h hj hw)];rw[cu (p:=j) c.N hj (λk hk ac=>?_),tD h hj hb c.m (asN _)]
 ·have:iA c s j=dL c s j c.m:=if_neg λg=>hw ((h.w j hj).2 g);rw[this]
 ·by_cases ae:∃q,q<c.m∧gt s.basic q=k
  ·have:iA c s k=0:=if_pos ae;rw[this,avq]
  ·rw[mI h hk ac (λq hq e=>ae ⟨q,hq,e⟩) c.m (asN _),avr]
theorem Om(h:fo c K s){up:Bool}(he:qF c s j up){k:Nat}(hk:k<c.N):wj (gt c.low k) (gt c.high k) (gt (gA c s j (yD up 1) c.m) k)=true:=by
 obtain⟨hj,hw, -, -,ho,hq⟩:=he;have hb:=h.nb hj hw;by_cases e:k=j
 ·subst e;rw[tD h hj hb c.m (asN _)];unfold yD fZ at *;cases up with
  | true =>
   simp only[if_true]at ho ⊢;unfold wj;rw[ho];have:¬(1:Rat)<0:=by decide
   simp[this]
  | false =>
   simp only[avg,if_false]at ho ⊢;unfold wj;rw[ho];have:¬(0:Rat) < -1:=by decide
   simp[this]
 ·by_cases ae:∃q,q<c.m∧gt s.basic q=k
  ·obtain⟨q,ah,rfl⟩:=ae;rw[pX h hj hb ah c.m (asN _),if_pos ah,Pq,avZ];have:=hq q ah;unfold mV at this;unfold wj;by_cases p1:0<gD s j up q
   ·have p2:¬gD s j up q<0:=by grind
    have p3:(gt c.high (gt s.basic q)).has=false:=by
     cases g:(gt c.high (gt s.basic q)).has with
     | false=>rfl
     | true=>exact absurd (.inl ⟨p1,g⟩) this
    simp[p1,p2,p3]
   ·by_cases p2:gD s j up q<0
    ·have p3:(gt c.low (gt s.basic q)).has=false:=by
      cases g:(gt c.low (gt s.basic q)).has with
      | false=>rfl
      | true=>exact absurd (.inr ⟨p2,g⟩) this
     simp[p1,p2,p3]
    ·simp[p1,p2]
  ·rw[mI h hk e (λq hq e=>ae ⟨q,hq,e⟩) c.m (asN _)];have:¬(0:Rat)<0:=by decide
   unfold wj;simp[this]
end
section
variable {p:aB} {n m N:Nat}
theorem E4(x:List Rat):∀j,iE p x j=aH (λk=>(gt p.ab k).cost*gt x k) j
 | 0=>rfl
 | j+1=>by simp only[iE,aH];rw[E4 x j]
theorem MB(hN:n+m=N){x:List Rat}{z:Nat->Rat}(hz:∀k,k<n->gt x k=z k):iE p x n=sg p*obj (bV p n m N) z:=by
 rw[E4];have e:obj (bV p n m N) z=aH (λk=>gt (bV p n m N).cost k*z k) n:=by show aH _ N=_;subst hN;rw[oh];rw[gy m λi hi=>by rw[Da rfl hi,avq],avG]
 rw[e,<-jm];refine aQ _ λk hk=>?_;rw[DK hN hk,hz k hk];unfold sg;split<;>grind
theorem Sn(hn:p.ab.length=n)(hm:p.rows.length=m)(hN:n+m=N)(hv:bh p=0){s:Tb}(h:fo (bV p n m N) (Kp p n m) s)(hf:kW (bV p n m N) s){j:Nat}{up:Bool}(he:qF (bV p n m N) s j up) :
  rh p ⟨3,s.x.take n,[],(gA (bV p n m N) s j (yD up 1) m).take n,0⟩=true:=by
 have xl:s.x.length=N:=h.t.x;have rl:(gA (bV p n m N) s j (yD up 1) m).length=N:=j6 ..;have hX:∀k,k<n->gt (s.x.take n) k=gt s.x k:=λk hk=>by simp[gt,hk]
 have kr:=Rq (y:=yD up 1) h he.1 he.2.1;have ro:=λk (hk:k<N)=>Om h he (k:=k) hk;have rj:=Oj (y:=yD up 1) h he.1 he.2.1;replace kr:Kp p n m (gt (gA (bV p n m N) s j (yD up 1) m)):=kr;replace rj:obj (bV p n m N) (gt (gA (bV p n m N) s j (yD up 1) m))=dL (bV p n m N) s j m*yD up 1:=rj;replace ro:∀k,k<N->wj (gt (bV p n m N).low k) (gt (bV p n m N).high k) (gt (gA (bV p n m N) s j (yD up 1) m) k)=true:=ro;obtain⟨hj,hw,d1,d2, -, -⟩:=he;generalize gA (bV p n m N) s j (yD up 1) m=L at *;have hL:∀k,k<n->gt (L.take n) k=gt L k:=λk hk=>by simp[gt,hk]
 have neg:dL (bV p n m N) s j m*yD up 1<0:=by
  unfold yD;cases up with
  | true=>have:=d1 rfl;replace this:dL (bV p n m N) s j m<0:=this;simp only[if_true];grind
  | false=>have:=d2 rfl;replace this:0<dL (bV p n m N) s j m:=this;simp only[avg,if_false];grind
 have g:=MB (p:=p) (m:=m) hN hL;rw[rj]at g;have oc:∀k,k<n->xv p (L.take n) k=true:=λk hk=>by have:=ro k (by omega);rw[oF hn hm hN hk,k8 hn hm hN hk,<-hL k hk]at this;exact this
 have or':∀i,i<m->DZ p (L.take n) i=true:=λi hi=>by have:=ro (n+i) (by omega);rw[nG hn hm hN hi,lV hn hm hN hi,<-Ns hn hm hv kr hL hi]at this;exact this
 unfold rh;have e1:(ati p.ab.length).all (xv p (L.take n))=true:=qE λk hk=>oc k (by omega);have e2:(ati p.rows.length).all (DZ p (L.take n))=true:=qE λk hk=>or' k (by omega);have e3:ka p (s.x.take n)=true:=by unfold ka;rw[holds_of hn hm hN hv h.kx hX hf];simp[xl];omega
 rw[e1,e2,e3,hn,g];generalize dL (bV p n m N) s j m*yD up 1=t at *;have lt:(L.take n).length=n:=by rw[List.length_take,rl];omega
 rw[lt];unfold sg;by_cases hx:p.max=true
 ·rw[if_pos hx,hx];have a1:(0:Rat) < -1*t:=by grind
  have a2:¬(-1*t=0):=by grind
  simp[a1,a2]
 ·have ai:p.max=false:=by simpa using hx
  rw[if_neg hx,ai];have b1:(1:Rat)*t=t:=by grind
  rw[b1];have a1:¬(0:Rat)<t:=by grind
  have a2:¬(t=0):=by grind
  simp[a1,a2]
theorem ND(hn:p.ab.length=n)(hm:p.rows.length=m)(hN:n+m=N)(h:Qr (bV p n m N)):gm p=true:=by
 obtain⟨k,hk,g1,g2,g3⟩:=h;replace hk:k<N:=hk;by_cases q:k<n
 ·rw[oF hn hm hN q]at g1 g3;rw[k8 hn hm hN q]at g2 g3;exact zB (j:=k) (by omega) (by unfold gP;rw[g1,g2];simpa using g3)
 ·obtain⟨i,rfl⟩:∃i,k=n+i:=⟨k - n,by omega⟩;rw[nG hn hm hN (by omega)]at g1 g3;rw[lV hn hm hN (by omega)]at g2 g3;exact vP (j:=i) (by omega) (by unfold gP;rw[g1,g2];simpa using g3)
theorem F3(hn:p.ab.length=n)(hm:p.rows.length=m)(hN:n+m=N)(hv:bh p=0){s:Tb}{cl:j0}(h:rH (bV p n m N) (Kp p n m) s cl):ri p cl=true:=by
 obtain⟨_,ad,h⟩:=h;have xl:s.x.length=N:=ad.t.x;have hX:∀k,k<n->gt (s.x.take n) k=gt s.x k:=λk hk=>by simp[gt,hk]
 rcases h with⟨cr,rfl⟩ | ⟨_,i,aa,st,rfl⟩ | ⟨_,hf,hb,rfl⟩ | ⟨_,hf,j,up,he,rfl⟩
 ·rw[Rw rfl];unfold Li.lQ;simp[ND hn hm hN cr]
 ·rw[Rw rfl];have aj:0<m:=by have:=st.1;replace this:i<m:=this;omega
  have fk:=PB hn hm hN ad st (y:=(ati m).map (zZ (bV p n m N) s i aa)) λq hq=>by rw[bF _ hq]
  unfold Li.lQ;show((decide (([]:List Rat).length=0)&&decide (([]:List Rat).length=0)&&decide ((0:Rat)=0))&&(if((ati m).map (zZ (bV p n m N) s i aa)).length=0 then gm p else decide (((ati m).map (zZ (bV p n m N) s i aa)).length=p.rows.length)&&pJ p ((ati m).map (zZ (bV p n m N) s i aa))))=true;rw[fk];simp[hm];omega
 ·rw[abJ rfl];obtain⟨l1,l2⟩:=Lg hn hm hN hv ad hf hb (y:=(ati m).map (va (bV p n m N) s)) (X:=s.x.take n) (λi hi=>by rw[bF _ hi];exact LF hN ad hi) hX;have e3:ka p (s.x.take n)=true:=by
   unfold ka;rw[holds_of hn hm hN hv ad.kx hX hf];simp[xl];omega
  unfold pP;show((ka p (s.x.take n)&&decide (((ati m).map (va (bV p n m N) s)).length=p.rows.length)&&decide (([]:List Rat).length=0))&&((l6 p ((ati m).map (va (bV p n m N) s))).has&&decide (dX p (s.x.take n) p.ab.length=dX p (s.x.take n) n)&&decide ((l6 p ((ati m).map (va (bV p n m N) s))).at'=dX p (s.x.take n) p.ab.length)))=true;rw[l1,l2,e3,hn];simp[hm]
 ·rw[W7 rfl];exact Sn hn hm hN hv ad hf he
end
end Go.Sx

