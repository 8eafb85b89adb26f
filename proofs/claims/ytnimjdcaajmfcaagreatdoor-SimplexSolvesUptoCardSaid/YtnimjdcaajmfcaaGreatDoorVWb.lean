/- A text of the prover's own. -/
import Derived.Test.YtnimjdcaajmfcaaGreatDoorVWa
open List renaming drop_drop->aAN,take_append_drop->aAO,length_take->aAc,take_of_length_le->aAp,map_take->aAP,mem_append->ayp,map_append->ayQ
open Nat renaming pow_pos->aAQ,add_assoc->axp,min_eq_left->aAs,eq_zero_or_pos->axS,mul_le_mul_left->ay1,mul_add->ayY,mul_lt_mul_of_pos_right->aAR,mul_zero->aAE,add_zero->axU,pow_succ->ayX,lt_of_mul_lt_mul_left->aAS,div_mul_le_self->aAT,add_mul->awM,mul_le_mul_right->axn,lt_of_mul_lt_mul_right->aAU,le_of_lt->aAV,two_pow_pos->aAv,mul_comm->ayZ,mul_assoc->ay0,mul_right_comm->aAW,div_eq_of_lt->aAz,mod_eq_of_lt->aAB,div_add_mod->aAX,mod_lt->axH,lt_or_ge->axT,pow_le_pow_right->ay2,le_trans->ayr,lt_trans->aAY,div_lt_iff_lt_mul->aAx,mul_le_mul->aAD,gcd->aAZ,gcd_comm->aA0,gcd_rec->aA1
open Int renaming tmod_eq_emod_of_nonneg->aA2,natCast_mul->aAG,ediv_eq_zero_of_lt->aA3,emod_eq_of_lt->aA4,gcd->aA5
set_option maxRecDepth 20000
set_option maxHeartbeats 8000000
namespace Go.Pl
theorem ET{l:List Nat}{n i:Nat}(h:i<n):dg (l.take n) i=dg l i:=by unfold dg;simp[h]
theorem Ae(l:List Nat)(n i:Nat):dg (l.drop n) i=dg l (n+i):=by unfold dg;simp[List.getElem?_drop]
theorem vu{B n:Nat}{l:List Nat}(h:∀d∈l,d<B):∀d∈l.take n,d<B:=λd hd=>h d (List.mem_of_mem_take hd)
theorem Ep{B n:Nat}{l:List Nat}(h:∀d∈l,d<B):∀d∈l.drop n,d<B:=λd hd=>h d (List.mem_of_mem_drop hd)
theorem Nb{B j n:Nat}{us:List Nat}{V:Nat}(hB:2<=B)(hu:∀d∈us,d<B)(hl:j+n+1<=us.length)(hV:V<B^n)(h:val B us<V*B^(j+1)) :
  val B us=val B (us.take j)+B^j*val B ((us.drop j).take (n+1))∧val B ((us.drop j).take (n+1))<V*B∧((us.drop j).take (n+1)).length=n+1∧val B (us.drop (j+n+1))=0:=by
 have hp:0<B^j:=aAQ (by omega);have e1:us=us.take j++((us.drop j).take (n+1)++us.drop (j+n+1)):=by
  have:us.drop (j+n+1)=(us.drop j).drop (n+1):=by rw[aAN,axp]
  rw[this,aAO,aAO]
 have hlen:((us.drop j).take (n+1)).length=n+1:=by simp;omega
 have e2:val B us=val B (us.take j)+B^j*(val B ((us.drop j).take (n+1))+B^(n+1)*val B (us.drop (j+n+1))):=by
  conv=>lhs;rw[e1]
  rw[dq,dq,hlen,aAc,aAs (by omega)]
 have hz:val B (us.drop (j+n+1))=0:=by
  rcases axS (val B (us.drop (j+n+1)))with h0 | h0
  ·exact h0
  ·exfalso;have h1:B^j*(B^(n+1)*1)<=val B us:=by
    rw[e2];have:=ay1 (B^j) (ay1 (B^(n+1)) (show 1<=_ from h0));rw[ayY];omega
   have h2:V*B^(j+1)<B^n*B^(j+1):=aAR hV (aAQ (by omega));have h3:B^j*(B^(n+1)*1)=B^n*B^(j+1):=by grind
   omega
 rw[hz]at e2;simp only[aAE,axU]at e2;refine⟨e2,?_,hlen,hz⟩;rw[e2,ayX]at h;have h4:B^j*val B ((us.drop j).take (n+1))<B^j*(V*B):=by
  have:V*(B^j*B)=B^j*(V*B):=by grind
  omega
 exact aAS h4
theorem N8{B n:Nat}{S:List Nat}(h:S.length=n+3):val B S=((dg S (n+2)*B+dg S (n+1))*B+dg S n)*B^n+val B (S.take n):=by
 have e:S=S.take (n+3):=(aAp (by omega)).symm
 conv=>lhs;rw[e]
 rw[dJ,dJ,dJ];grind
theorem Qc{B n:Nat}{S:List Nat}(h:S.length=n+2):val B S=(dg S (n+1)*B+dg S n)*B^n+val B (S.take n):=by
 have e:S=S.take (n+2):=(aAp (by omega)).symm
 conv=>lhs;rw[e]
 rw[dJ,dJ];grind
theorem kG{B n:Nat}{S:List Nat}(h:∀d∈S,d<B)(hl:n<=S.length):val B (S.take n)<B^n:=by
 have:=mz (S.take n) (vu h)
 rwa [aAc,aAs hl]at this
theorem Hg{B K v1 v2 V0 top u2 U0 U V:Nat}(hV:V=(v1*B+v2)*K+V0)(hU:U=(top*B+u2)*K+U0)(bY:U0<K)(a2:u2<B)(ac:0<v1):U / V<=top / v1:=by
 rw[Nat.le_div_iff_mul_le ac];rcases axS V with h0 | h0
 ·rw[h0];simp
 have h1:U / V*V<=U:=aAT U V;have h2:U / V*(v1*B*K)<=U / V*V:=ay1 _ (by rw[hV,awM];omega);have h3:U<(top+1)*(B*K):=by
  have:(top*B+u2+1)*K<=((top+1)*B)*K:=axn K (by rw[awM];omega);rw[hU];have e:(top*B+u2+1)*K=(top*B+u2)*K+K:=by grind
  have e2:(top+1)*B*K=(top+1)*(B*K):=by grind
  omega
 have h4:U / V*v1*(B*K)<(top+1)*(B*K):=by
  have:U / V*v1*(B*K)=U / V*(v1*B*K):=by grind
  omega
 have:=aAU h4;omega
theorem Xd{B K v1 v2 V0 u0 u1 u2 U0 U V:Nat}(hV:V=(v1*B+v2)*K+V0)(hU:U=((u0*B+u1)*B+u2)*K+U0)(al:V0<K)(ap:v2<B)(h:U<V*B):u0<=v1:=by
 have h1:V<(v1+1)*(B*K):=by
  have:(v1*B+v2+1)*K<=((v1+1)*B)*K:=axn K (by rw[awM];omega);have e:(v1*B+v2+1)*K=(v1*B+v2)*K+K:=by grind
  have e2:(v1+1)*B*K=(v1+1)*(B*K):=by grind
  omega
 have h2:u0*(B*K)*B<=U:=by
  have:U=u0*(B*K)*B+((u1*B+u2)*K+U0):=by rw[hU];grind
  omega
 have h3:V*B<=(v1+1)*(B*K)*B:=axn B (aAV h1);have h4:u0*(B*K*B)<(v1+1)*(B*K*B):=by
  have e1:u0*(B*K)*B=u0*(B*K*B):=by grind
  have e2:(v1+1)*(B*K)*B=(v1+1)*(B*K*B):=by grind
  omega
 have:=aAU h4;omega
theorem Pu{B n:Nat}(hB:2<=B)(hn:n≠0):dg (bO B n) ((bO B n).length - 1)≠0:=by
 have h:=Ci hB n;rcases tQ (bO B n)with h0 | ⟨zs,z,h0⟩
 ·exact absurd ((bW hB).1 h0) hn
 ·rw[h0]at h ⊢;have e:dg (zs++[z]) ((zs++[z]).length - 1)=z:=by unfold dg;simp
  rw[e];rintro rfl;rw[lV]at h;have:=u4 zs;rw[h]at this;simp at this;omega
theorem WX{B n t:Nat}{b:List Nat}(hb:∀d∈b,d<B)(hl:b.length=n+1)(hB:B=2^t*(B / 2^t))(ht:2^t*dg b n<B):val B b*2^t<B^(n+1):=by
 have e:b=b.take (n+1):=(aAp (by omega)).symm;have h1:=kG hb (show n<=b.length by omega);have h2:val B b=val B (b.take n)+B^n*dg b n:=by conv=>lhs;rw[e,dJ]
 have hp:0<2^t:=aAv t;have h3:(dg b n+1)*2^t<=B:=by rw[hB]at ht ⊢;have:=aAS ht;rw[ayZ];exact ay1 _ this
 have h4:val B b<B^n*(dg b n+1):=by rw[h2,ayY];omega
 have h5:val B b*2^t<B^n*(dg b n+1)*2^t:=aAR h4 hp;have h6:B^n*(dg b n+1)*2^t<=B^n*B:=by rw[ay0];exact ay1 _ h3
 rw[ayX];omega
theorem WY{B n:Nat}{l:List Nat}(hl:l.length=n+1):dg l n*B^n<=val B l:=by
 have e:l=l.take (n+1):=(aAp (by omega)).symm;have h2:val B l=val B (l.take n)+B^n*dg l n:=by conv=>lhs;rw[e,dJ]
 rw[h2,ayZ];omega
theorem VG{B n x:Nat}{l:List Nat}(hB:0<B)(hl:l.length=n+1)(hd:∀d∈l,d<B)(h:x*B^n<=val B l):x<=dg l n:=by
 have e:l=l.take (n+1):=(aAp (by omega)).symm;have h2:val B l=val B (l.take n)+B^n*dg l n:=by conv=>lhs;rw[e,dJ]
 have h1:=kG hd (show n<=l.length by omega);have h3:x*B^n<(dg l n+1)*B^n:=by
  have:(dg l n+1)*B^n=B^n*dg l n+B^n:=by rw[awM,ayZ];omega
  omega
 have:=aAU h3;omega
theorem Jj{B j n:Nat}{us vs:List Nat}(hB:2<=B)(hu:∀d∈us,d<B)(hv:∀d∈vs,d<B)(hl:j+n+1<=us.length)(a3:vs.length=n)(hn:2<=n)(h:val B us<val B vs*B^(j+1)) :
  ∃S,S=(us.drop j).take (n+1)∧S.length=n+1∧(∀d∈S,d<B)∧val B us=val B (us.take j)+B^j*val B S∧val B S<val B vs*B ∧
   val B S=((dg us (j+n)*B+dg us (j+n - 1))*B+dg us (j+n - 2))*B^(n - 2)+val B (S.take (n - 2))∧val B (S.take (n - 2))<B^(n - 2) ∧
   val B vs=(dg vs (n - 1)*B+dg vs (n - 2))*B^(n - 2)+val B (vs.take (n - 2))∧val B (vs.take (n - 2))<B^(n - 2)∧val B (us.drop (j+n+1))=0:=by
 have hV:val B vs<B^n:=by have:=mz vs hv;rwa [a3]at this
 obtain⟨h1,h2,h3,h4⟩:=Nb hB hu hl hV h;obtain⟨k,rfl⟩:∃k,n=k+2:=⟨n - 2,by omega⟩;refine⟨_,rfl,h3,vu (Ep hu),h1,h2,?_,?_,?_,?_,h4⟩
 ·have:=N8 (B:=B) (n:=k) h3;rw[ET (by omega),ET (by omega),ET (by omega),Ae,Ae,Ae]at this;exact this
 ·exact kG (vu (Ep hu)) (by rw[h3];omega)
 ·exact Qc a3
 ·exact kG hv (by omega)
theorem Q7{B n:Nat}{us:List Nat}(h:val B us<B^n)(hl:n<=us.length):val B (us.take n)=val B us:=by
 have e:val B us=val B (us.take n)+B^n*val B (us.drop n):=by
  conv=>lhs;rw[<-aAO n us]
  rw[dq,aAc,aAs hl]
 rcases axS (val B (us.drop n))with h0 | h0
 ·rw[e,h0];simp
 ·have:=ay1 (B^n) (show 1<=_ from h0);omega
theorem NM{m n P U Q:Nat}(hn:0<n)(hP:0<P)(h:m*P=U+n*P*Q)(hU:U<n*P):Q=m / n∧U / P=m % n:=by
 have e:U=P*(m - n*Q):=by
  have:n*P*Q=P*(n*Q):=by grind
  rw[Nat.mul_sub,ayZ P m];omega
 have h1:U / P=m - n*Q:=by rw[e];exact Nat.mul_div_cancel_left _ hP
 have h2:m - n*Q<n:=by rw[e,ayZ n P]at hU;exact aAS hU
 have h3:n*Q<=m:=by
  have:n*Q*P<=m*P:=by rw[h,aAW];omega
  exact Nat.le_of_mul_le_mul_right this hP
 obtain⟨r,rfl⟩:∃r,m=n*Q+r:=⟨m - n*Q,by omega⟩;rw[Nat.add_sub_cancel_left]at h1 h2;rw[h1,Nat.mul_add_div hn,Nat.mul_add_mod,aAz h2,aAB h2];simp
def GC(q g:Nat):Prop:=g=q∨g=q+1
theorem take_zero{U o g V:Nat}(hV:0<V)(h:GC (U / V) g)(e:U=o+g*V):g=U / V∧o=U % V:=by
 have h1:=aAX U V;have h2:=axH U hV;rcases h with h | h
 ·refine⟨h,?_⟩;rw[ayZ,<-h]at h1;omega
 ·exfalso;rw[h,awM,ayZ (U / V)]at e;omega
theorem take_one{U P o o' c g V:Nat}(hV:0<V)(a4:V<=P)(h:GC (U / V) g)(e:U+P=o+g*V)(ho:o<P)(e':o+V=o'+P*c)(bZ:o'<P):g=U / V+1∧o'=U % V:=by
 have h1:=aAX U V;have h2:=axH U hV;rcases h with h | h
 ·exfalso;rw[h,ayZ]at e;omega
 ·refine⟨h,?_⟩;rw[h,awM,ayZ (U / V)]at e;rcases Nat.lt_trichotomy c 1 with hc | hc | hc
  ·obtain rfl:c=0:=by omega
   simp at e';omega
  ·subst hc;omega
  ·have:=ay1 P (show 2<=c from hc);omega
theorem Lq{B P m V L U q rest Q:Nat}(h:m=(L+P*U)+V*(P*B*Q))(hq:U=V*q+rest):m=(L+P*rest)+V*(P*(q+B*Q)):=by subst hq;grind
end Go.Pl
namespace Go.Proofs
open Go.Sv Go Go.Pl
theorem KZ(m n:Nat)(hn:n≠0)(bg:wid 4294967296 m<=2000000000000)(bh:wid 4294967296 n<=2000000000000) :
  aE Tryz.prog 175 [.ro ((bO 4294967296 m).map u32),.ro ((bO 4294967296 n).map u32)] (.bM [.ro ((bO 4294967296 (m / n)).map u32),.ro ((bO 4294967296 (m % n)).map u32)]):=by
 refine aj Tryz.func175 rfl (by simp) (λC hC=>?_);have B2:2<=4294967296:=by omega
 have hc:=tE m n (by omega) (by omega);have vm:=cB B2 m;have vn:=cB B2 n;have lm:=cX B2 m;have ln:=cX B2 n;have aM:bO 4294967296 n≠[]:=λh=>hn ((bW B2).1 h);simp only[wid]at bg bh;simp;refine bz hc (by simp) ?_;rcases axT m n with aR | bi
 ·have e:eE m n = -1:=by simp[eE,aR]
  rw[e];simp;rw[aAz aR,aAB aR];simp[bu,aAp];omega
 ·have e:¬eE m n<0:=by simp[eE];omega
  simp[e];have hlen:(bO 4294967296 n).length<=(bO 4294967296 m).length:=cH B2 bi;refine⟨λh1=>?_,λh1=>?_⟩
  ·obtain⟨d,hd⟩:=List.length_eq_one_iff.1 (by omega:(bO 4294967296 n).length=1);rw[hd]at vn ln;simp[val]at vn ln;subst vn;rw[hd];simp;refine aa.awH (.qs [0,2,3]<|.q 4 [1000000]<|.l 1 [1000000]<|.l 5 [0,1000000]<|.qs [6,7,8,9,10]<|.nil) ?_;simp;refine⟨by omega,?_⟩;refine AO (bO 4294967296 m) [] d (by simp) (by omega) lm (by omega) (by simp[];rintro i e h;cases i<;>simp_all [aA]) (λq h2 h3 h4=>?_);rw[vm]at h4 ⊢;simp;refine bz (pD [m % d] (by simp)) (by simp) ?_;simp;have e1:bO 4294967296 (m / d)=cG q:=by rw[<-h4,gz B2 q h2]
   have e2:bO 4294967296 (m % d)=cG [m % d]:=by have:=gz B2 [m % d] (by simp;have:=axH m (show 0<d by omega);omega);simpa[val]using this
   rw[e1,e2];simp[u4,<-aAP,Ac]
  ·have b0:0<dg (bO 4294967296 n) ((bO 4294967296 n).length - 1):=Nat.pos_of_ne_zero (Pu B2 hn);generalize bO 4294967296 m=a at *;generalize bO 4294967296 n=b at *;have b5:b.length≠1:=by omega
   have b6:b.length≠0:=λh=>aM (List.length_eq_zero_iff.1 h);have bT:=dZ ln (by omega) (b.length - 1);refine aa.loop (ι:=Nat) (λup=>⟨180,[(0,.ro (a.map u32)),(1,.ro (b.map u32)),(8,.val (.int .u64 up))],[]⟩) (λup=>up<32∧2^up*dg b (b.length - 1)<4294967296) (λup=>32 - up) 0 ?_ ?_ ?_
   ·simp;omega
   ·simp[aP,hC]
   ·rintro up ⟨aN,a2⟩;obtain⟨T,hT⟩:∃T,T=2^up*dg b (b.length - 1):=⟨_,rfl⟩;have e1:(dg b (b.length - 1):Int)*2^up=T:=by rw[hT];push_cast;exact Int.mul_comm _ _
    have aq:min up 32=up:=by omega
    rw[<-hT]at a2;have e3:(T:Int) % 4294967296=T:=by omega
    by_cases hh:T<2147483648
    ·have e2:(T:Int) / 2147483648=0:=by omega
     have bj:up+1<32:=by
      rcases axT (up+1) 32 with h | h
      ·exact h
      ·exfalso;obtain rfl:up=31:=by omega
       omega
     simp(disch:=omega)[aD,bK,iY,iQ,e1,e2,e3,aq];refine⟨by omega,up+1,⟨bj,by rw[ayX,aAW,<-hT];omega⟩,by omega,by simp[aP,hC]⟩
    ·have e2:(T:Int) / 2147483648=1:=by omega
     simp(disch:=omega)[aD,bK,iY,e1,e2,e3,aq];refine⟨by omega,?_⟩;have bk:4294967296=2^up*(4294967296 / 2^up):=by rw[Nat.mul_div_cancel'];exact Nat.pow_dvd_pow 2 (show up<=32 by omega)
     have fa:val 4294967296 a*2^up<4294967296^(a.length+1):=by have h1:=mz a lm;have h2:2^up<4294967296:=Nat.pow_lt_pow_right (by omega) (show up<32 by omega);rw[ayX];exact Nat.mul_lt_mul'' h1 h2
     have fb:val 4294967296 b*2^up<4294967296^b.length:=by
      have:=WX (n:=b.length - 1) ln (by omega) bk (by rw[<-hT];omega)
      rwa [show b.length - 1+1=b.length by omega]at this
     refine CM a up (a.length+1) (by push_cast;rfl) lm aN (by omega) (by omega) fa (λus bl bm a5=>?_);simp;refine CM b up b.length rfl ln aN (by omega) (by omega) fb (λvs aO am ar=>?_);obtain⟨c0,b7⟩:∃c0,a.length+1=c0+b.length:=⟨a.length+1 - b.length,by omega⟩;have bn:(a.length:Int)+1 - b.length=c0:=by omega
     simp(disch:=omega)[aD,bn];refine⟨by omega,?_⟩;obtain⟨V,hV⟩:∃V,V=val 4294967296 vs:=⟨_,rfl⟩;have bp:V<4294967296^b.length:=by rw[hV,ar];exact fb
     have al:0<V:=by rw[hV,ar,vn];exact Nat.mul_pos (by omega) (aAv up)
     have a6:T*4294967296^(b.length - 1)<=V:=by have:=WY (B:=4294967296) (n:=b.length - 1) (l:=b) (by omega);rw[hV,ar,hT,ay0,ayZ];exact axn _ this
     have b8:2147483648<=dg vs (b.length - 1):=by have:=VG (by omega) (show vs.length=b.length - 1+1 by omega) am (by rw[<-hV];exact a6);omega
     refine aa.loop (ι:=List Nat × List Nat × Nat) (λ⟨us,qs,c⟩=>⟨180,[(8,.val (.int .u64 up)),(9,.view 0 0 (a.length+1)),(10,.view 1 0 b.length),(11,.val (.int .i64 b.length)),(12,.view 2 0 c0),(13,.val (.int .i64 ((c:Int) - 1)))],
       [some ⟨1,us.map u32,false⟩,some ⟨1,vs.map u32,false⟩,some ⟨1,qs.map u32,false⟩]⟩)
      (λ⟨us,qs,c⟩=>us.length=a.length+1∧qs.length=c0∧c<=c0∧(∀d∈us,d<4294967296)∧(∀d∈qs,d<4294967296)∧val 4294967296 us<V*4294967296^c∧m*2^up=val 4294967296 us+V*(4294967296^c*val 4294967296 (qs.drop c)))
      (λ⟨us,qs,c⟩=>c) (us,List.replicate c0 0,c0) ?_ ?_ ?_
     ·refine⟨bl,by simp,by omega,bm,by simp,?_,?_⟩
      ·rw[a5];have h1:=mz a lm;have h2:2^up<=2147483648:=ay2 (by omega) (show up<=31 by omega);have h3:val 4294967296 a*2^up<=val 4294967296 a*2147483648:=ay1 _ h2;have h4:val 4294967296 a*2147483648<4294967296^a.length*2147483648:=aAR h1 (by omega);have h5:4294967296^a.length=4294967296^(b.length - 1)*4294967296^c0:=by rw[<-Nat.pow_add];congr 1;omega
       have h6:2147483648*4294967296^(b.length - 1)<=V:=ayr (axn _ (by omega)) a6;have h7:=axn (4294967296^c0) h6;have h8:4294967296^a.length*2147483648=2147483648*4294967296^(b.length - 1)*4294967296^c0:=by rw[h5];grind
       omega
      ·rw[a5,vm];simp[val]
     ·simp[aP,hC]
     ·rintro⟨us,qs,c⟩ ⟨g1,g2,g3,g4,g5,g6,g7⟩;cases c with
      | zero =>
       have au:val 4294967296 us<V:=by simpa using g6
       have bq:val 4294967296 (us.take b.length)=val 4294967296 us:=Q7 (aAY au bp) (by omega);have av:=NM (m:=m) (n:=n) (P:=2^up) (U:=val 4294967296 us) (Q:=val 4294967296 qs) (by omega) (aAv up) (by rw[g7,hV,ar,vn];simp) (by rw[<-vn,<-ar,<-hV];exact au);simp;refine aa.awH (.qs [0,2,3,4,5]<|.l 1 []<|.l 6 []<|.qs [7,8]<|.nil) ?_;simp;refine⟨by omega,?_⟩;refine bz (pD qs (by omega)) (by simp[aAp,g2]) ?_;simp;refine bz (QB (us.take b.length) up (vu g4) aN (by simp;omega)) (by simp[g1,aAP];omega) ?_;rw[bq,av.2,<-av.1,gz B2 qs g5];simp
      | succ j =>
       simp(disch:=omega)[];refine aa.awH (.qs [0,1,2,3,4,5,6,7,8,9,10,11,12,13,14,15,16,17]<|.nil) ?_;have br:=dZ g4 (by omega) (j+b.length);have bs:=dZ g4 (by omega) (j+b.length - 1);simp(disch:=omega)[aD,bK,iQ,mX];refine⟨⟨by omega,by omega⟩,by omega,⟨by omega,by omega⟩,by omega,?_⟩;refine aa.awH (.qs [0,1,2,3,4,5,6,7,8,9,10,11,12,13,14,15,16,17]<|.nil) ?_;simp(disch:=omega)[aD,bK];have b9:=dZ am (by omega) (b.length - 1);have bt:=dZ am (by omega) (b.length - 2);have ca:=dZ g4 (by omega) (j+b.length - 2);have bv:¬(dg vs (b.length - 1):Int)=0:=by omega
       simp(disch:=omega)[iQ,Int.tdiv_eq_ediv_of_nonneg,aA2];repeat refine And.intro (by omega) ?_
       obtain⟨S,hS,bx,bA,aw,aI,an,a7,ao,ax,bB⟩:=Jj B2 g4 am (show j+b.length+1<=us.length by omega) aO (by omega) (by rw[<-hV];exact g6);rw[<-hV]at aI ao;obtain⟨U,hU⟩:∃U,U=val 4294967296 S:=⟨_,rfl⟩;rw[<-hU]at aw aI an;obtain⟨top,aQ⟩:∃top,top=dg us (j+b.length)*4294967296+dg us (j+b.length - 1):=⟨_,rfl⟩;obtain⟨v1,ac⟩:∃v1,v1=dg vs (b.length - 1):=⟨_,rfl⟩;obtain⟨v2,ap⟩:∃v2,v2=dg vs (b.length - 2):=⟨_,rfl⟩;obtain⟨u2,ad⟩:∃u2,u2=dg us (j+b.length - 2):=⟨_,rfl⟩;have cb:dg us (j+b.length)<=dg vs (b.length - 1):=Xd ao an ax bt aI;have et:(dg us (j+b.length):Int)*4294967296+dg us (j+b.length - 1)=top:=by omega
       rw[<-aQ,<-ad]at an;rw[<-ac,<-ap]at ao;have ae:0<v1:=by omega
       have ay:top<(v1+1)*4294967296:=by rw[awM];omega
       have q0:U / V<=top / v1:=Hg ao an a7 (by omega) ae;have qB:U / V<4294967296:=by rw[aAx al,ayZ];exact aI
       have g0:top / v1<=4294967297:=by
        have:top / v1<4294967298:=by rw[aAx ae];omega
        omega
       have ed:(top:Int) / v1=((top / v1:Nat):Int):=by simp
       have ew:IntKind.u64.wrap ((top:Int) / v1)=(top:Int) / v1:=by rw[ed];generalize top / v1=z at g0;rw[iQ];omega
       have az:∀g r,g*v1+r=top->U / V<=g->g<4294967296->g*v2<=r*4294967296+u2->GC (U / V) g:=λg r h1 h2 h3 h4 =>
        I7 rfl al h2 (Mf ao an ax ae (by omega) h1 h4 (by omega))
       refine aa.cut (λe st'=>e=.exit 4∧∃g:Nat,GC (U / V) g∧g<4294967296∧aP C st' ⟨180,[(8,.val (.int .u64 up)),(9,.view 0 0 (a.length+1)),(10,.view 1 0 b.length),(11,.val (.int .i64 b.length)),(12,.view 2 0 c0),(13,.val (.int .i64 j)),(15,.val (.int .u64 g))],
        [some ⟨1,us.map u32,false⟩,some ⟨1,vs.map u32,false⟩,some ⟨1,qs.map u32,false⟩]⟩) ?_ ?_
       ·refine aa.loop (ι:=Nat × Nat) (λ⟨g,r⟩=>⟨180,[(8,.val (.int .u64 up)),(9,.view 0 0 (a.length+1)),(10,.view 1 0 b.length),(11,.val (.int .i64 b.length)),(12,.view 2 0 c0),(13,.val (.int .i64 j)),(15,.val (.int .u64 g)),(16,.val (.int .u64 r))],
          [some ⟨1,us.map u32,false⟩,some ⟨1,vs.map u32,false⟩,some ⟨1,qs.map u32,false⟩]⟩)
         (λ⟨g,r⟩=>g*v1+r=top∧U / V<=g∧g<=4294967297∧r<4294967296) (λ⟨g,r⟩=>g) (top / v1,top % v1) ?_ ?_ ?_
        ·refine⟨?_,q0,g0,?_⟩
         ·have:=aAX top v1;rw[ayZ]at this;exact this
         ·have:=axH top ae;omega
        ·simp[aP,hC,et,ew,<-ac]
        ·rintro⟨g,r⟩ ⟨k1,k2,k3,k4⟩;have body:∀g1,g=g1+1->U / V<g->(g1*v1+(r+v1)=top∧U / V<=g1∧g1<=4294967297)∧(4294967296<=r+v1->GC (U / V) g1∧g1<4294967296):=by
          intro g1 bC aR;subst bC;have e:g1*v1+(r+v1)=top:=by rw[<-k1,awM];omega
          refine⟨⟨e,by omega,by omega⟩,λhr=>?_⟩;have a8:g1<4294967296:=by
           have:g1*v1<4294967296*v1:=by rw[awM]at ay;omega
           exact aAU this
          refine⟨az g1 (r+v1) e (by omega) a8 ?_,a8⟩;have h1:g1*v2<=4294967296*4294967296:=aAD (by omega) (by omega);have h2:=axn 4294967296 hr;omega
         simp(disch:=omega);refine aa.awH (.qs [0,1,2,3,4,5,6,7,8,9,10,11,12,13,14,15,16,17,18,19,20,21,22,23,24]<|.nil) ?_;by_cases hA:4294967296<=g
         ·obtain⟨g1,rfl⟩:∃g1,g=g1+1:=⟨g - 1,by omega⟩;have aJ:0<((g1:Int)+1) / 4294967296:=by omega
          obtain⟨⟨b1,b2,b3⟩,b4⟩:=body g1 rfl (by omega);by_cases hr:4294967296<=r+v1
          ·have ai:0<((r:Int)+v1) / 4294967296:=by omega
           simp(disch:=omega)[aD,iQ,bK,aJ,ai,<-ac];refine⟨by omega,by omega,g1,(b4 hr).1,(b4 hr).2,by simp[aP,hC]⟩
          ·have ai:¬0<((r:Int)+v1) / 4294967296:=by omega
           simp(disch:=omega)[aD,iQ,bK,aJ,ai,<-ac];refine⟨by omega,by omega,g1,r+v1,⟨b1,b2,b3,by omega⟩,by omega,by simp[aP,hC]⟩
         ·have aJ:¬0<(g:Int) / 4294967296:=by omega
          have bD:g*v2<=4294967295*4294967295:=aAD (by omega) (by omega);have aB:(g:Int)*v2<=18446744065119617025:=by rw[<-aAG];omega
          have aF:(0:Int)<=(g:Int)*v2:=by rw[<-aAG];omega
          by_cases hB:r*4294967296+u2<g*v2
          ·have bE:(r:Int)*4294967296+u2<(g:Int)*v2:=by rw[<-aAG];omega
           have a9:U / V<g:=MT ao an a7 (aAT U V) k1 hB;have cc:0<g:=Nat.lt_of_le_of_lt (Nat.zero_le _) a9;obtain⟨g1,rfl⟩:∃g1,g=g1+1:=⟨g - 1,by omega⟩;obtain⟨⟨b1,b2,b3⟩,b4⟩:=body g1 rfl a9;have ba:¬0<((g1:Int)+1) / 4294967296:=by omega
           have ag:((g1+1:Nat):Int)*v2=((g1:Int)+1)*v2:=by push_cast;rfl
           rw[ag]at aB aF;have aG:=bE;rw[ag]at aG;by_cases hr:4294967296<=r+v1
           ·have ai:0<((r:Int)+v1) / 4294967296:=by omega
            simp(disch:=omega)[aD,iQ,bK,mX,ba,aG,ai,<-ac,<-ap,<-ad];refine⟨by omega,by omega,by omega,by omega,by omega,by omega,g1,(b4 hr).1,(b4 hr).2,by simp[aP,hC]⟩
           ·have ai:¬0<((r:Int)+v1) / 4294967296:=by omega
            simp(disch:=omega)[aD,iQ,bK,mX,ba,aG,ai,<-ac,<-ap,<-ad];refine⟨by omega,by omega,by omega,by omega,by omega,by omega,g1,r+v1,⟨b1,b2,b3,by omega⟩,by omega,by simp[aP,hC]⟩
          ·have aG:¬(r:Int)*4294967296+u2<(g:Int)*v2:=by rw[<-aAG];omega
           simp(disch:=omega)[aD,iQ,bK,mX,aJ,aG,<-ac,<-ap,<-ad];refine⟨by omega,by omega,by omega,by omega,g,az g r k1 k2 (by omega) (by omega),by omega,by simp[aP,hC]⟩
       ·rintro e st' ⟨rfl,g,hg,bF,hle⟩;refine⟨_,hle,?_⟩;simp(disch:=omega)[aD];refine⟨by omega,?_⟩;have aS:us=us.take j++(S++us.drop (j+b.length+1)):=by
         have:us.drop (j+b.length+1)=(us.drop j).drop (b.length+1):=by rw[aAN,axp]
         rw[hS,this,aAO,aAO]
        have a4:V<=4294967296^S.length:=by rw[bx,ayX];omega
        have fin:∀o',o'.length=S.length->(∀d∈o',d<4294967296)->val 4294967296 o'=U % V ->
          (us.take j++(o'++us.drop (j+b.length+1))).length=a.length+1∧(qs.set j (U / V)).length=c0∧j<=c0∧(∀d∈us.take j++(o'++us.drop (j+b.length+1)),d<4294967296)∧(∀d∈qs.set j (U / V),d<4294967296) ∧
          val 4294967296 (us.take j++(o'++us.drop (j+b.length+1)))<V*4294967296^j∧m*2^up=val 4294967296 (us.take j++(o'++us.drop (j+b.length+1)))+V*(4294967296^j*val 4294967296 ((qs.set j (U / V)).drop j)):=by
         intro o' h1 h2 h3;have hv:val 4294967296 (us.take j++(o'++us.drop (j+b.length+1)))=val 4294967296 (us.take j)+4294967296^j*(U % V):=by rw[dq,dq,bB,h3,aAc,aAs (by omega)];simp
         have hL:=kG g4 (show j<=us.length by omega);have hr:=axH U al;refine⟨by simp;omega,by simpa using g2,by omega,?_,kW _ g5 qB,?_,?_⟩
         ·intro d hd;rcases ayp.1 hd with hd | hd
          ·exact vu g4 d hd
          ·rcases ayp.1 hd with hd | hd
           ·exact h2 d hd
           ·exact Ep g4 d hd
         ·rw[hv];have:=ay1 (4294967296^j) (show U % V+1<=V from hr);rw[ayY,Nat.mul_one,ayZ (4294967296^j) V]at this;omega
         ·rw[hv,dH _ (qs.set j (U / V)),pP _ (by omega),if_pos rfl,fL];rw[aw,ayX]at g7;exact Lq g7 (aAX U V).symm
        refine B8 ((us.take j).map u32) ((us.drop (j+b.length+1)).map u32) S vs g ?_ (by simp[aA]) (by omega) (by simp;omega) (by omega) aO.symm bA am bF (by omega) (by omega) (λo bw aT aU cd aV=>?_)
        ·simp only[aA];rw[<-ayQ,<-ayQ,<-aS]
        ·rw[<-hU,<-hV]at aV;by_cases ce:0<bw
         ·obtain rfl:bw=1:=by omega
          simp(disch:=omega)[aD];refine⟨by omega,?_⟩;refine B9 ((us.take j).map u32) ((us.drop (j+b.length+1)).map u32) o vs ?_ (by simp[aA]) (by omega) (by simp;omega) (by omega) aO.symm aU am (by omega) (by omega) (λo' c1 bG bb bc=>?_)
          ·simp[aA]
          ·rw[<-hV,aT]at bc;obtain⟨f1,f2⟩:=take_one al a4 hg (by simpa using aV) (by rw[<-aT];exact mz o aU) bc (by rw[<-aT,<-bG];exact mz o' bb);obtain⟨G1,G2,G3,G4,G5,G6,G7⟩:=fin o' (by omega) bb f2;generalize U / V=q at *;subst f1;have aW:(q:Int) % 4294967296=q:=by omega
           simp(disch:=omega)[aD,iQ,iY,bK,aW];refine⟨by omega,by omega,_,qs.set j q,j,⟨G1,G2,G3,G4,G5,G6,G7⟩,by omega,by simp[aP,hC,cq]⟩
         ·obtain rfl:bw=0:=by omega
          obtain⟨f1,f2⟩:=take_zero al hg (by simpa using aV);obtain⟨G1,G2,G3,G4,G5,G6,G7⟩:=fin o (by omega) aU f2;generalize U / V=q at *;subst f1;have aW:(g:Int) % 4294967296=g:=by omega
          simp(disch:=omega)[aD,iY,bK,aW];refine⟨by omega,by omega,_,qs.set j g,j,⟨G1,G2,G3,G4,G5,G6,G7⟩,by omega,by simp[aP,hC,cq]⟩
end Go.Proofs
namespace Go.Proofs
open Go.Sv Go Go.Pl
theorem LJ{x y q r:Int}(hy:y≠0)(h:x=r+y*q)(h0:0<=r)(h1:r<y.natAbs):x / y=q∧x % y=r:=by
 subst h;rw[Int.add_mul_ediv_left _ _ hy,Int.add_mul_emod_self_left];rcases Int.lt_or_gt_of_ne hy with h | h
 ·have e1:r / y=0:=by
   rw[show y = -(-y) by omega,Int.ediv_neg,aA3 h0 (by omega)];rfl
  have e2:r % y=r:=by rw[show y = -(-y) by omega,Int.emod_neg,aA4 h0 (by omega)]
  rw[e1,e2];simp
 ·rw[aA3 h0 (by omega),aA4 h0 (by omega)];simp
theorem DQ{x y:Int}(h:y.natAbs<=x.natAbs)(hx:fit x):fit y:=ayr (cH (by omega) h) hx
theorem w9{x:Int}(h:x.natAbs<4294967296^3):fit x:=ayr (iC (by omega) h) (by omega)
theorem Bx(b:Bool)(n:Nat)(h:wid 4294967296 n<=1000000000000):aE Tryz.prog 136 [.val (.bool b),.ro ((bO 4294967296 n).map u32)] (dm (if b=true then -(n:Int) else(n:Int))):=by
 have:=lz b (bO 4294967296 n) (by simp only[wid]at h;omega) (cX (by omega) n)
 rwa [cB (by omega)]at this
theorem Cb(x y:Int)(hx:fit x)(hy:fit y) :
  aE Tryz.prog 134 [dm x,dm y] (.bM [dm (x / y),dm (if y=0 then 0 else x % y),.val (.bool (decide (y≠0)))]):=by
 refine aj Tryz.func134 rfl (by simp) (λC hC=>?_);by_cases h0:y=0
 ·subst h0;simp[dm,bu]
 ·have bd:y.natAbs≠0:=by omega
  have aM:¬(bO 4294967296 y.natAbs)=[]:=λh=>bd ((bW (by omega)).1 h);have bH:x.natAbs / y.natAbs<=x.natAbs:=Nat.div_le_self _ _;have bI:x.natAbs % y.natAbs<=x.natAbs:=Nat.mod_le _ _;have cf:=axH x.natAbs (show 0<y.natAbs by omega);have bJ:=aAX x.natAbs y.natAbs;have hl:=KZ x.natAbs y.natAbs bd (ayr hx (by omega)) (ayr hy (by omega));generalize x.natAbs / y.natAbs=Q at *;generalize x.natAbs % y.natAbs=R at *;have be:=Bx (decide (x<0) != decide (y<0)) Q (ayr (cH (by omega) bH) hx);have aK:=Bx (decide (x<0)) R (ayr (cH (by omega) bI) hx);obtain⟨q,hq⟩:∃q,q=(if(decide (x<0) != decide (y<0))=true then -(Q:Int) else(Q:Int)):=⟨_,rfl⟩;obtain⟨r,hr⟩:∃r,r=(if decide (x<0)=true then -(R:Int) else(R:Int)):=⟨_,rfl⟩;rw[<-hq]at be;rw[<-hr]at aK;have aY:x=r+y*q:=by
   have af:(y.natAbs:Int)*Q+R=x.natAbs:=by rw[<-aAG,<-Int.natCast_add,bJ]
   by_cases h1:x<0<;>by_cases h2:y<0
   ·have e1:(x.natAbs:Int) = -x:=by omega
    have e2:(y.natAbs:Int) = -y:=by omega
    rw[e1,e2]at af;simp[h1,h2]at hq hr;subst hq hr;grind
   ·have e1:(x.natAbs:Int) = -x:=by omega
    have e2:(y.natAbs:Int)=y:=by omega
    rw[e1,e2]at af;simp[h1,h2]at hq hr;subst hq hr;grind
   ·have e1:(x.natAbs:Int)=x:=by omega
    have e2:(y.natAbs:Int) = -y:=by omega
    rw[e1,e2]at af;simp[h1,h2]at hq hr;subst hq hr;grind
   ·have e1:(x.natAbs:Int)=x:=by omega
    have e2:(y.natAbs:Int)=y:=by omega
    rw[e1,e2]at af;simp[h1,h2]at hq hr;subst hq hr;grind
  have cg:r.natAbs=R:=by rw[hr];split<;>omega
  have ch:q.natAbs=Q:=by rw[hq];split<;>omega
  have fq:fit q:=DQ (x:=x) (by omega) hx;have fr:fit r:=DQ (x:=x) (by omega) hx;simp[dm,aM,h0];refine bz hl (by simp) ?_;simp;refine aa.awH (.qs [0,1,2,3,4,5,7,8,9]<|.l 6 []<|.l 10 []<|.l 11 [2]<|.l 12 [3]<|.nil) ?_;simp;refine bz be (by simp[bne]) ?_;simp;refine bz aK (by simp) ?_;by_cases aZ:r<0
  ·have ha:=uc r (y.natAbs:Int) fr (by simpa[fit]using hy);have ci:¬(y.natAbs:Int)<0:=by omega
   simp[dm,aZ,bne];refine bz ha (by simp[dm,aZ]) ?_;simp[dm];by_cases bf:y<0
   ·obtain⟨u1,u2⟩:=LJ (x:=x) (y:=y) (q:=q+1) (r:=r+y.natAbs) h0 (by rw[aY];grind) (by omega) (by omega);have a0:¬(0:Int)<=y:=by omega
    simp[bf,a0];refine aa.awH (.qs [0]<|.l 1 []<|.l 2 []<|.l 3 [2]<|.nil) ?_;simp;refine bz (oS 1 (by omega) (by omega)) (by simp) ?_;simp[dm];refine bz (uc q 1 fq (w9 (by simp))) (by simp[dm]) ?_;simp[dm];refine aa.awH (.qs [0]<|.q 1 [2]<|.l 2 [2]<|.l 3 [3]<|.qs [4]<|.nil) ?_;simp[u1,u2];try omega
   ·obtain⟨u1,u2⟩:=LJ (x:=x) (y:=y) (q:=q - 1) (r:=r+y.natAbs) h0 (by rw[aY];grind) (by omega) (by omega);have a0:0<=y:=by omega
    simp[bf,a0];refine aa.awH (.qs [0]<|.l 1 []<|.l 2 []<|.l 3 [2]<|.nil) ?_;simp;refine bz (oS 1 (by omega) (by omega)) (by simp) ?_;simp[dm];refine bz (N2 q 1 fq (w9 (by simp))) (by simp[dm]) ?_;simp[dm];refine aa.awH (.qs [0]<|.q 1 [2]<|.l 2 [2]<|.l 3 [3]<|.qs [4]<|.nil) ?_;simp[u1,u2];try omega
  ·obtain⟨u1,u2⟩:=LJ (x:=x) (y:=y) (q:=q) (r:=r) h0 aY (by omega) (by omega);simp[dm,aZ];refine aa.awH (.qs [0]<|.q 1 [2]<|.l 2 [2]<|.l 3 [3]<|.qs [4]<|.nil) ?_;simp[u1,u2];try omega
end Go.Proofs
namespace Go.Proofs
open Go.Sv Go Go.Pl
theorem AW{n:Nat}(h:wid 4294967296 n<=2):n<18446744073709551616:=by have:=rh (B:=4294967296) (by omega) n;have:=Nat.lt_of_lt_of_le this (ay2 (by omega) h);simpa using this
theorem OR(m n:Nat)(hm:wid 4294967296 m<=2)(hn:wid 4294967296 n<=2) :
  aE Tryz.prog 174 [.ro ((bO 4294967296 m).map u32),.ro ((bO 4294967296 n).map u32)] (dm (aAZ m n:Nat)):=by
 refine aj Tryz.func174 rfl (by simp) (λC hC=>?_);have wm:=KY (bO 4294967296 m) (cX (by omega) m) hm;have wn:=KY (bO 4294967296 n) (cX (by omega) n) hn;rw[cB (by omega)]at wm wn;have bL:=AW hm;have bN:=AW hn;simp;refine bz wm (by simp) ?_;simp;refine bz wn (by simp) ?_;simp;refine aa.loop (ι:=Nat × Nat) (λ⟨x,y⟩=>⟨24,[(4,.ptr 0 0 0),(5,.val (.int .u64 x)),(6,.val (.int .u64 y))],[some ⟨2,[.agg [.val (.bool false),.val (.slice none 0 0)]],false⟩]⟩)
  (λ⟨x,y⟩=>x<18446744073709551616∧y<18446744073709551616∧aAZ x y=aAZ m n) (λ⟨x,y⟩=>y) (m,n) ?_ ?_ ?_
 ·exact⟨bL,bN,rfl⟩
 ·simp[aP,hC]
 ·rintro⟨x,y⟩ ⟨h1,h2,h3⟩;by_cases hy:0<y
  ·simp[hy];refine aa.awH (.qs [0,1,2,3,4,5]<|.nil) ?_;simp(disch:=omega)[aA2];refine⟨by omega,y,x % y,⟨h2,aAY (axH _ hy) h2,by rw[<-h3,aA0 x y,aA1 y x,aA0]⟩,axH _ hy,by simp[aP,hC]⟩
  ·obtain rfl:y=0:=by omega
   simp at h3;subst h3;have aH:=lz false [aAZ m n % 4294967296,aAZ m n / 4294967296] (by simp) (by simp;omega);simp[val]at aH;generalize aAZ m n=g at *;rw[show((g:Int) % 4294967296+4294967296*((g:Int) / 4294967296))=g by omega]at aH;have e:(g:Int) / 4294967296 % 4294967296=(g:Int) / 4294967296:=by omega
   simp(disch:=omega)[iY,e];refine bz aH (by simp) ?_;simp
theorem OA(m n:Nat):aAZ n (m % n)=aAZ m n:=by rw[aA0 m n,aA1 n m,aA0]
theorem WS(x y:Int)(hx:fit x)(hy:fit y):aE Tryz.prog 132 [dm x,dm y] (dm (aA5 x y:Nat)):=by
 refine aj Tryz.func132 rfl (by simp) (λC hC=>?_);simp[dm];refine aa.awH (.qs [0,1,2,3,4,5]<|.nil) ?_;simp;refine aa.loop (ι:=Nat × Nat) (λ⟨m,n⟩=>⟨39,[(4,.ptr 2 0 0),(5,.ro ((bO 4294967296 m).map u32)),(6,.ro ((bO 4294967296 n).map u32))],
   [some ⟨2,[.agg [.val (.bool (decide (x<0))),.ro ((bO 4294967296 x.natAbs).map u32)]],false⟩,some ⟨2,[.agg [.val (.bool (decide (y<0))),.ro ((bO 4294967296 y.natAbs).map u32)]],false⟩,some ⟨2,[.agg [.val (.bool false),.val (.slice none 0 0)]],false⟩]⟩)
  (λ⟨m,n⟩=>wid 4294967296 m<=1000000000000∧wid 4294967296 n<=1000000000000∧aAZ m n=aA5 x y) (λ⟨m,n⟩=>n) (x.natAbs,y.natAbs) ?_ ?_ ?_
 ·exact⟨hx,hy,rfl⟩
 ·simp[aP,hC]
 ·rintro⟨m,n⟩ ⟨h1,h2,h3⟩;by_cases hn:n=0
  ·subst hn;simp at h3;subst h3;have aH:=Bx false _ h1;simp only[wid]at h1;simp[bu];refine⟨by omega,?_⟩;refine bz aH (by simp[aAp]) ?_;simp[dm]
  ·have hl:0<(bO 4294967296 n).length:=List.length_pos_iff.2 λh=>hn ((bW (by omega)).1 h);have ah:=KZ m n hn (by omega) (by omega);have hr:=axH m (show 0<n by omega);have ht:=pD (bO 4294967296 (m % n)) (by
    have:=cH (B:=4294967296) (by omega) (aAV hr);simp only[wid]at this h2;omega)
   rw[Ci (by omega)]at ht;have go:∀st',aP C st' ⟨39,[(4,.ptr 2 0 0),(5,.ro ((bO 4294967296 n).map u32)),(6,.ro ((bO 4294967296 (m % n)).map u32))],
     [some ⟨2,[.agg [.val (.bool (decide (x<0))),.ro ((bO 4294967296 x.natAbs).map u32)]],false⟩,some ⟨2,[.agg [.val (.bool (decide (y<0))),.ro ((bO 4294967296 y.natAbs).map u32)]],false⟩,some ⟨2,[.agg [.val (.bool false),.val (.slice none 0 0)]],false⟩]⟩->
     ∃m' n',(wid 4294967296 m'<=1000000000000∧wid 4294967296 n'<=1000000000000∧aAZ m' n'=aA5 x y)∧n'<n∧aP C st' ⟨39,[(4,.ptr 2 0 0),(5,.ro ((bO 4294967296 m').map u32)),(6,.ro ((bO 4294967296 n').map u32))],
     [some ⟨2,[.agg [.val (.bool (decide (x<0))),.ro ((bO 4294967296 x.natAbs).map u32)]],false⟩,some ⟨2,[.agg [.val (.bool (decide (y<0))),.ro ((bO 4294967296 y.natAbs).map u32)]],false⟩,some ⟨2,[.agg [.val (.bool false),.val (.slice none 0 0)]],false⟩]⟩ :=
    λst' hle=>⟨n,m % n,⟨h2,ayr (cH (by omega) (aAV hr)) h2,by rw[OA];exact h3⟩,hr,hle⟩
   by_cases aK:(bO 4294967296 m).length<=2
   ·by_cases bP:(bO 4294967296 n).length<=2
    ·have hs:=OR m n aK bP;have ab:((bO 4294967296 m).length:Int)<=2:=by omega
     have ak:((bO 4294967296 n).length:Int)<=2:=by omega
     simp[hl,ab,ak];refine bz hs (by simp) ?_;simp[dm,h3]
    ·have ab:((bO 4294967296 m).length:Int)<=2:=by omega
     have ak:¬((bO 4294967296 n).length:Int)<=2:=by omega
     simp[hl,ab,ak];refine bz ah (by simp) ?_;simp;refine bz ht (by simp) ?_;simp;exact go _ (by simp[aP,hC])
   ·have ab:¬((bO 4294967296 m).length:Int)<=2:=by omega
    simp[hl,ab];refine bz ah (by simp) ?_;simp;refine bz ht (by simp) ?_;simp;exact go _ (by simp[aP,hC])
end Go.Proofs
namespace Go.Proofs
open Go.Sv Go Go.Pl
def Xy(x:Int):Prop := -9223372036854775808<=x∧x<=9223372036854775807
instance (x:Int):Decidable (Xy x):=inferInstanceAs (Decidable (_∧_))
end Go.Proofs
namespace Go.Proofs
open Go.Sv Go Go.Pl
theorem DH(k:Nat)(A B:aC):eU k (A++B)=(eU k A&&eU k B):=by
 induction A with
 | nil=>simp[eU]
 | cons x A ih=>cases x<;>simp[eU,Bool.and_assoc]
theorem zW{C:Ctx}{M:aC}{k n:Nat}{K:aC->List Nat->SV->Prop}(l:List Nat)(b d:Nat){d':Int}(bQ:d'=d)(hn:n=l.length)(hk:aA M k=some ⟨1,l.map u32,false⟩)(hl:l.length<=4398046511103)(hx:∀d∈l,d<4294967296)(hb:b<4294967296)(hd:d<4294967296)
  (bR:k∉C.fx) (bS:∀xs:List Nat,eU k (aX M k (some ⟨1,xs.map u32,false⟩))=true) (hK:∀(l':List Nat) (J:aC),(∀d∈l',d<4294967296)->l'.length<=l.length+1->val 4294967296 l'=val 4294967296 l*b+d->K (aX M k (some ⟨1,l'.map u32,false⟩)++J) [k] (.view k 0 l'.length)) :
  dK Tryz.prog C 182 [.view k 0 n,.val (.int .u32 b),.val (.int .u32 d')] M none K:=by
 subst bQ hn;refine ep Tryz.func182 rfl (by simp) [k] (by simpa using bR) (by simp) (λC' hC=>?_);have bU:k∉C'.fx:=by rw[hC];simp
 simp(disch:=omega)[iQ];refine aa.loop (ι:=List Nat × Nat × Nat) (λ⟨o,i,c⟩=>⟨43,[(0,.view k 0 l.length),(1,.val (.int .u32 b)),(7,.val (.int .u64 c)),(13,.val (.int .i64 l.length)),(14,.val (.int .i64 i))],aX M k (some ⟨1,o.map u32,false⟩)⟩)
  (λ⟨o,i,c⟩=>o.length=l.length∧i<=l.length∧(∀d∈o,d<4294967296)∧c<4294967296∧o.drop i=l.drop i∧val 4294967296 (o.take i)+4294967296^i*c=val 4294967296 (l.take i)*b+d)
  (λ⟨o,i,c⟩=>l.length - i) (l,0,d) ?_ ?_ ?_
 ·exact⟨rfl,by omega,hx,hd,rfl,by simp[val]⟩
 ·simp[aP,ot hk]
 ·rintro⟨o,i,c⟩ ⟨h1,h2,h3,h4,h5,h6⟩;have aL:=iM (M:=M) (k:=k) ⟨1,o.map u32,false⟩ hk;by_cases aR:i<l.length
  ·have bo:=dZ h3 (by omega) i;have ho:dg o i=dg l i:=uS h5;obtain⟨t,ht⟩:∃t,t=dg o i*b+c:=⟨_,rfl⟩;have bD:dg o i*b<=4294967295*4294967295:=aAD (by omega) (by omega);have aB:(dg o i:Int)*b<=18446744065119617025:=by rw[<-aAG];omega
   have aF:(0:Int)<=(dg o i:Int)*b:=by rw[<-aAG];omega
   have e1:(dg o i:Int)*b+c=t:=by rw[ht];push_cast;rfl
   obtain⟨c',bV⟩:∃c',c'=t / 4294967296:=⟨_,rfl⟩;obtain⟨lo,bX⟩:∃lo,lo=t % 4294967296:=⟨_,rfl⟩;have e2:(t:Int) % 4294967296=lo:=by omega
   have e3:(t:Int) / 4294967296=c':=by omega
   have a1:lo<4294967296:=by omega
   have F:=kW i h3 a1;have G:val 4294967296 ((o.set i lo).take (i+1))+4294967296^(i+1)*c'=val 4294967296 (l.take (i+1))*b+d:=by rw[dR _ (by omega),dq,aAc,aAs (by omega),dJ,ayX];simp only[val,aAE,axU];have e:=Nat.mod_add_div t 4294967296;rw[<-bX,<-bV,ht,ho]at e;generalize 4294967296^i=P at *;grind
   have D:(o.set i lo).drop (i+1)=l.drop (i+1):=by rw[fL];exact jV h5
   simp(disch:=omega)[aD,iQ,aR,aL,bK,iY,my,e1,e2,e3, -List.map_set];repeat refine And.intro (by omega) ?_
   refine⟨o.set i lo,i+1,c',⟨by simpa using h1,by omega,F,by omega,D,G⟩,by omega,by simp[aP]⟩
  ·obtain rfl:i=l.length:=by omega
   rw[List.take_length,aAp (by omega)]at h6;by_cases hc:0<c
   ·have q1:=λx=>pS x aL;have q2:=λx=>NU (M:=aX M k (some ⟨1,o.map u32,false⟩)) (n:=M.length) x (by simp);have q3:=λx y=>vt x y aL;have e:(c:Int) % 4294967296=c:=by omega
    simp(disch:=omega)[hc,iY,bU,h1,q1,q2,q3,e,DH,bS];refine⟨by omega,?_⟩;have:=hK (o++[c]) [some ⟨1,[.val (.int .u32 c)],false⟩] (pC h3 h4) (by simp;omega) (by rw[dq,h1];simpa[val]using h6);simpa[h1]using this
   ·obtain rfl:c=0:=by omega
    simp(disch:=omega)[];have:=hK o [] h3 (by omega) (by simpa using h6);rw[h1]at this;simpa using this
end Go.Proofs

