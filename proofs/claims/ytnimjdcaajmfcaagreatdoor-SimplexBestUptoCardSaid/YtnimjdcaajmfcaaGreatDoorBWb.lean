/- A text of the prover's own. -/
import Derived.Test.YtnimjdcaajmfcaaGreatDoorBWa
open List renaming drop_drop->auB,take_append_drop->auC,length_take->auf,take_of_length_le->aud,map_take->auD,mem_append->ath,map_append->atE
open Nat renaming pow_pos->auE,add_assoc->asM,min_eq_left->auh,eq_zero_or_pos->as1,mul_le_mul_left->atQ,mul_add->atM,mul_lt_mul_of_pos_right->auF,mul_zero->aut,add_zero->as3,pow_succ->atL,lt_of_mul_lt_mul_left->auG,div_mul_le_self->auH,add_mul->asn,mul_le_mul_right->asK,lt_of_mul_lt_mul_right->auI,le_of_lt->auJ,two_pow_pos->auk,mul_comm->atN,mul_assoc->atP,mul_right_comm->auK,div_eq_of_lt->auo,mod_eq_of_lt->auq,div_add_mod->auL,mod_lt->asW,lt_or_ge->as2,pow_le_pow_right->atS,le_trans->atj,lt_trans->auM,div_lt_iff_lt_mul->aum,mul_le_mul->aus,gcd->auN,gcd_comm->auO,gcd_rec->auP
open Int renaming tmod_eq_emod_of_nonneg->auQ,natCast_mul->auv,ediv_eq_zero_of_lt->auR,emod_eq_of_lt->auS,gcd->auT
set_option maxRecDepth 20000
set_option maxHeartbeats 8000000
namespace Go.Pl
theorem BN{l:List Nat}{n i:Nat}(h:i<n):dg (l.take n) i=dg l i:=by unfold dg;simp[h]
theorem za(l:List Nat)(n i:Nat):dg (l.drop n) i=dg l (n+i):=by unfold dg;simp[List.getElem?_drop]
theorem tG{B n:Nat}{l:List Nat}(h:∀d∈l,d<B):∀d∈l.take n,d<B:=λd hd=>h d (List.mem_of_mem_take hd)
theorem CH{B n:Nat}{l:List Nat}(h:∀d∈l,d<B):∀d∈l.drop n,d<B:=λd hd=>h d (List.mem_of_mem_drop hd)
theorem MH{B j n:Nat}{us:List Nat}{V:Nat}(hB:2<=B)(hu:∀d∈us,d<B)(hl:j+n+1<=us.length)(hV:V<B^n)(h:val B us<V*B^(j+1)) :
  val B us=val B (us.take j)+B^j*val B ((us.drop j).take (n+1))∧val B ((us.drop j).take (n+1))<V*B∧((us.drop j).take (n+1)).length=n+1∧val B (us.drop (j+n+1))=0:=by
 have hp:0<B^j:=auE (by omega);have e1:us=us.take j++((us.drop j).take (n+1)++us.drop (j+n+1)):=by
  have:us.drop (j+n+1)=(us.drop j).drop (n+1):=by rw[auB,asM]
  rw[this,auC,auC]
 have hlen:((us.drop j).take (n+1)).length=n+1:=by simp;omega
 have e2:val B us=val B (us.take j)+B^j*(val B ((us.drop j).take (n+1))+B^(n+1)*val B (us.drop (j+n+1))):=by
  conv=>lhs;rw[e1]
  rw[cU,cU,hlen,auf,auh (by omega)]
 have hz:val B (us.drop (j+n+1))=0:=by
  rcases as1 (val B (us.drop (j+n+1)))with h0 | h0
  ·exact h0
  ·exfalso;have h1:B^j*(B^(n+1)*1)<=val B us:=by
    rw[e2];have:=atQ (B^j) (atQ (B^(n+1)) (show 1<=_ from h0));rw[atM];omega
   have h2:V*B^(j+1)<B^n*B^(j+1):=auF hV (auE (by omega));have h3:B^j*(B^(n+1)*1)=B^n*B^(j+1):=by grind
   omega
 rw[hz]at e2;simp only[aut,as3]at e2;refine⟨e2,?_,hlen,hz⟩;rw[e2,atL]at h;have h4:B^j*val B ((us.drop j).take (n+1))<B^j*(V*B):=by
  have:V*(B^j*B)=B^j*(V*B):=by grind
  omega
 exact auG h4
theorem MZ{B n:Nat}{S:List Nat}(h:S.length=n+3):val B S=((dg S (n+2)*B+dg S (n+1))*B+dg S n)*B^n+val B (S.take n):=by
 have e:S=S.take (n+3):=(aud (by omega)).symm
 conv=>lhs;rw[e]
 rw[dr,dr,dr];grind
theorem K5{B n:Nat}{S:List Nat}(h:S.length=n+2):val B S=(dg S (n+1)*B+dg S n)*B^n+val B (S.take n):=by
 have e:S=S.take (n+2):=(aud (by omega)).symm
 conv=>lhs;rw[e]
 rw[dr,dr];grind
theorem jR{B n:Nat}{S:List Nat}(h:∀d∈S,d<B)(hl:n<=S.length):val B (S.take n)<B^n:=by
 have:=lP (S.take n) (tG h)
 rwa [auf,auh hl]at this
theorem EH{B K v1 v2 V0 top u2 U0 U V:Nat}(hV:V=(v1*B+v2)*K+V0)(hU:U=(top*B+u2)*K+U0)(bY:U0<K)(a2:u2<B)(ac:0<v1):U / V<=top / v1:=by
 rw[Nat.le_div_iff_mul_le ac];rcases as1 V with h0 | h0
 ·rw[h0];simp
 have h1:U / V*V<=U:=auH U V;have h2:U / V*(v1*B*K)<=U / V*V:=atQ _ (by rw[hV,asn];omega);have h3:U<(top+1)*(B*K):=by
  have:(top*B+u2+1)*K<=((top+1)*B)*K:=asK K (by rw[asn];omega);rw[hU];have e:(top*B+u2+1)*K=(top*B+u2)*K+K:=by grind
  have e2:(top+1)*B*K=(top+1)*(B*K):=by grind
  omega
 have h4:U / V*v1*(B*K)<(top+1)*(B*K):=by
  have:U / V*v1*(B*K)=U / V*(v1*B*K):=by grind
  omega
 have:=auI h4;omega
theorem RV{B K v1 v2 V0 u0 u1 u2 U0 U V:Nat}(hV:V=(v1*B+v2)*K+V0)(hU:U=((u0*B+u1)*B+u2)*K+U0)(al:V0<K)(ap:v2<B)(h:U<V*B):u0<=v1:=by
 have h1:V<(v1+1)*(B*K):=by
  have:(v1*B+v2+1)*K<=((v1+1)*B)*K:=asK K (by rw[asn];omega);have e:(v1*B+v2+1)*K=(v1*B+v2)*K+K:=by grind
  have e2:(v1+1)*B*K=(v1+1)*(B*K):=by grind
  omega
 have h2:u0*(B*K)*B<=U:=by
  have:U=u0*(B*K)*B+((u1*B+u2)*K+U0):=by rw[hU];grind
  omega
 have h3:V*B<=(v1+1)*(B*K)*B:=asK B (auJ h1);have h4:u0*(B*K*B)<(v1+1)*(B*K*B):=by
  have e1:u0*(B*K)*B=u0*(B*K*B):=by grind
  have e2:(v1+1)*(B*K)*B=(v1+1)*(B*K*B):=by grind
  omega
 have:=auI h4;omega
theorem M0{B n:Nat}(hB:2<=B)(hn:n≠0):dg (bO B n) ((bO B n).length - 1)≠0:=by
 have h:=AI hB n;rcases rR (bO B n)with h0 | ⟨zs,z,h0⟩
 ·exact absurd ((bX hB).1 h0) hn
 ·rw[h0]at h ⊢;have e:dg (zs++[z]) ((zs++[z]).length - 1)=z:=by unfold dg;simp
  rw[e];rintro rfl;rw[oA]at h;have:=tP zs;rw[h]at this;simp at this;omega
theorem RM{B n t:Nat}{b:List Nat}(hb:∀d∈b,d<B)(hl:b.length=n+1)(hB:B=2^t*(B / 2^t))(ht:2^t*dg b n<B):val B b*2^t<B^(n+1):=by
 have e:b=b.take (n+1):=(aud (by omega)).symm;have h1:=jR hb (show n<=b.length by omega);have h2:val B b=val B (b.take n)+B^n*dg b n:=by conv=>lhs;rw[e,dr]
 have hp:0<2^t:=auk t;have h3:(dg b n+1)*2^t<=B:=by rw[hB]at ht ⊢;have:=auG ht;rw[atN];exact atQ _ this
 have h4:val B b<B^n*(dg b n+1):=by rw[h2,atM];omega
 have h5:val B b*2^t<B^n*(dg b n+1)*2^t:=auF h4 hp;have h6:B^n*(dg b n+1)*2^t<=B^n*B:=by rw[atP];exact atQ _ h3
 rw[atL];omega
theorem RJ{B n:Nat}{l:List Nat}(hl:l.length=n+1):dg l n*B^n<=val B l:=by
 have e:l=l.take (n+1):=(aud (by omega)).symm;have h2:val B l=val B (l.take n)+B^n*dg l n:=by conv=>lhs;rw[e,dr]
 rw[h2,atN];omega
theorem SA{B n x:Nat}{l:List Nat}(hB:0<B)(hl:l.length=n+1)(hd:∀d∈l,d<B)(h:x*B^n<=val B l):x<=dg l n:=by
 have e:l=l.take (n+1):=(aud (by omega)).symm;have h2:val B l=val B (l.take n)+B^n*dg l n:=by conv=>lhs;rw[e,dr]
 have h1:=jR hd (show n<=l.length by omega);have h3:x*B^n<(dg l n+1)*B^n:=by
  have:(dg l n+1)*B^n=B^n*dg l n+B^n:=by rw[asn,atN];omega
  omega
 have:=auI h3;omega
theorem GS{B j n:Nat}{us vs:List Nat}(hB:2<=B)(hu:∀d∈us,d<B)(hv:∀d∈vs,d<B)(hl:j+n+1<=us.length)(a3:vs.length=n)(hn:2<=n)(h:val B us<val B vs*B^(j+1)) :
  ∃S,S=(us.drop j).take (n+1)∧S.length=n+1∧(∀d∈S,d<B)∧val B us=val B (us.take j)+B^j*val B S∧val B S<val B vs*B ∧
   val B S=((dg us (j+n)*B+dg us (j+n - 1))*B+dg us (j+n - 2))*B^(n - 2)+val B (S.take (n - 2))∧val B (S.take (n - 2))<B^(n - 2) ∧
   val B vs=(dg vs (n - 1)*B+dg vs (n - 2))*B^(n - 2)+val B (vs.take (n - 2))∧val B (vs.take (n - 2))<B^(n - 2)∧val B (us.drop (j+n+1))=0:=by
 have hV:val B vs<B^n:=by have:=lP vs hv;rwa [a3]at this
 obtain⟨h1,h2,h3,h4⟩:=MH hB hu hl hV h;obtain⟨k,rfl⟩:∃k,n=k+2:=⟨n - 2,by omega⟩;refine⟨_,rfl,h3,tG (CH hu),h1,h2,?_,?_,?_,?_,h4⟩
 ·have:=MZ (B:=B) (n:=k) h3;rw[BN (by omega),BN (by omega),BN (by omega),za,za,za]at this;exact this
 ·exact jR (tG (CH hu)) (by rw[h3];omega)
 ·exact K5 a3
 ·exact jR hv (by omega)
theorem PA{B n:Nat}{us:List Nat}(h:val B us<B^n)(hl:n<=us.length):val B (us.take n)=val B us:=by
 have e:val B us=val B (us.take n)+B^n*val B (us.drop n):=by
  conv=>lhs;rw[<-auC n us]
  rw[cU,auf,auh hl]
 rcases as1 (val B (us.drop n))with h0 | h0
 ·rw[e,h0];simp
 ·have:=atQ (B^n) (show 1<=_ from h0);omega
theorem LC{m n P U Q:Nat}(hn:0<n)(hP:0<P)(h:m*P=U+n*P*Q)(hU:U<n*P):Q=m / n∧U / P=m % n:=by
 have e:U=P*(m - n*Q):=by
  have:n*P*Q=P*(n*Q):=by grind
  rw[Nat.mul_sub,atN P m];omega
 have h1:U / P=m - n*Q:=by rw[e];exact Nat.mul_div_cancel_left _ hP
 have h2:m - n*Q<n:=by rw[e,atN n P]at hU;exact auG hU
 have h3:n*Q<=m:=by
  have:n*Q*P<=m*P:=by rw[h,auK];omega
  exact Nat.le_of_mul_le_mul_right this hP
 obtain⟨r,rfl⟩:∃r,m=n*Q+r:=⟨m - n*Q,by omega⟩;rw[Nat.add_sub_cancel_left]at h1 h2;rw[h1,Nat.mul_add_div hn,Nat.mul_add_mod,auo h2,auq h2];simp
def Ek(q g:Nat):Prop:=g=q∨g=q+1
theorem take_zero{U o g V:Nat}(hV:0<V)(h:Ek (U / V) g)(e:U=o+g*V):g=U / V∧o=U % V:=by
 have h1:=auL U V;have h2:=asW U hV;rcases h with h | h
 ·refine⟨h,?_⟩;rw[atN,<-h]at h1;omega
 ·exfalso;rw[h,asn,atN (U / V)]at e;omega
theorem take_one{U P o o' c g V:Nat}(hV:0<V)(a4:V<=P)(h:Ek (U / V) g)(e:U+P=o+g*V)(ho:o<P)(e':o+V=o'+P*c)(bZ:o'<P):g=U / V+1∧o'=U % V:=by
 have h1:=auL U V;have h2:=asW U hV;rcases h with h | h
 ·exfalso;rw[h,atN]at e;omega
 ·refine⟨h,?_⟩;rw[h,asn,atN (U / V)]at e;rcases Nat.lt_trichotomy c 1 with hc | hc | hc
  ·obtain rfl:c=0:=by omega
   simp at e';omega
  ·subst hc;omega
  ·have:=atQ P (show 2<=c from hc);omega
theorem JI{B P m V L U q rest Q:Nat}(h:m=(L+P*U)+V*(P*B*Q))(hq:U=V*q+rest):m=(L+P*rest)+V*(P*(q+B*Q)):=by subst hq;grind
end Go.Pl
namespace Go.Proofs
open Go.Sv Go Go.Pl
theorem HL(m n:Nat)(hn:n≠0)(bh:wid 4294967296 m<=2000000000000)(bi:wid 4294967296 n<=2000000000000) :
  aG Tryz.prog 175 [.ro ((bO 4294967296 m).map u32),.ro ((bO 4294967296 n).map u32)] (.bP [.ro ((bO 4294967296 (m / n)).map u32),.ro ((bO 4294967296 (m % n)).map u32)]):=by
 refine aj Tryz.func175 rfl (by simp) (λC hC=>?_);have B2:2<=4294967296:=by omega
 have hc:=sf m n (by omega) (by omega);have vm:=ct B2 m;have vn:=ct B2 n;have lm:=cV B2 m;have ln:=cV B2 n;have aM:bO 4294967296 n≠[]:=λh=>hn ((bX B2).1 h);simp only[wid]at bh bi;simp;refine bg hc (by simp) ?_;rcases as2 m n with aP | bk
 ·have e:dW m n = -1:=by simp[dW,aP]
  rw[e];simp;rw[auo aP,auq aP];simp[bj,aud];omega
 ·have e:¬dW m n<0:=by simp[dW];omega
  simp[e];have hlen:(bO 4294967296 n).length<=(bO 4294967296 m).length:=cq B2 bk;refine⟨λh1=>?_,λh1=>?_⟩
  ·obtain⟨d,hd⟩:=List.length_eq_one_iff.1 (by omega:(bO 4294967296 n).length=1);rw[hd]at vn ln;simp[val]at vn ln;subst vn;rw[hd];simp;refine aa.asj (.qs [0,2,3]<|.q 4 [1000000]<|.l 1 [1000000]<|.l 5 [0,1000000]<|.qs [6,7,8,9,10]<|.nil) ?_;simp;refine⟨by omega,?_⟩;refine yO (bO 4294967296 m) [] d (by simp) (by omega) lm (by omega) (by simp[];rintro i e h;cases i<;>simp_all [aA]) (λq h2 h3 h4=>?_);rw[vm]at h4 ⊢;simp;refine bg (nZ [m % d] (by simp)) (by simp) ?_;simp;have e1:bO 4294967296 (m / d)=cC q:=by rw[<-h4,gI B2 q h2]
   have e2:bO 4294967296 (m % d)=cC [m % d]:=by have:=gI B2 [m % d] (by simp;have:=asW m (show 0<d by omega);omega);simpa[val]using this
   rw[e1,e2];simp[tP,<-auD,xu]
  ·have b0:0<dg (bO 4294967296 n) ((bO 4294967296 n).length - 1):=Nat.pos_of_ne_zero (M0 B2 hn);generalize bO 4294967296 m=a at *;generalize bO 4294967296 n=b at *;have b5:b.length≠1:=by omega
   have b6:b.length≠0:=λh=>aM (List.length_eq_zero_iff.1 h);have bT:=dT ln (by omega) (b.length - 1);refine aa.loop (ι:=Nat) (λup=>⟨180,[(0,.ro (a.map u32)),(1,.ro (b.map u32)),(8,.val (.int .u64 up))],[]⟩) (λup=>up<32∧2^up*dg b (b.length - 1)<4294967296) (λup=>32 - up) 0 ?_ ?_ ?_
   ·simp;omega
   ·simp[aR,hC]
   ·rintro up ⟨aN,a2⟩;obtain⟨T,hT⟩:∃T,T=2^up*dg b (b.length - 1):=⟨_,rfl⟩;have e1:(dg b (b.length - 1):Int)*2^up=T:=by rw[hT];push_cast;exact Int.mul_comm _ _
    have aq:min up 32=up:=by omega
    rw[<-hT]at a2;have e3:(T:Int) % 4294967296=T:=by omega
    by_cases hh:T<2147483648
    ·have e2:(T:Int) / 2147483648=0:=by omega
     have bl:up+1<32:=by
      rcases as2 (up+1) 32 with h | h
      ·exact h
      ·exfalso;obtain rfl:up=31:=by omega
       omega
     simp(disch:=omega)[aK,bB,ix,ig,e1,e2,e3,aq];refine⟨by omega,up+1,⟨bl,by rw[atL,auK,<-hT];omega⟩,by omega,by simp[aR,hC]⟩
    ·have e2:(T:Int) / 2147483648=1:=by omega
     simp(disch:=omega)[aK,bB,ix,e1,e2,e3,aq];refine⟨by omega,?_⟩;have bm:4294967296=2^up*(4294967296 / 2^up):=by rw[Nat.mul_div_cancel'];exact Nat.pow_dvd_pow 2 (show up<=32 by omega)
     have fa:val 4294967296 a*2^up<4294967296^(a.length+1):=by have h1:=lP a lm;have h2:2^up<4294967296:=Nat.pow_lt_pow_right (by omega) (show up<32 by omega);rw[atL];exact Nat.mul_lt_mul'' h1 h2
     have fb:val 4294967296 b*2^up<4294967296^b.length:=by
      have:=RM (n:=b.length - 1) ln (by omega) bm (by rw[<-hT];omega)
      rwa [show b.length - 1+1=b.length by omega]at this
     refine A7 a up (a.length+1) (by push_cast;rfl) lm aN (by omega) (by omega) fa (λus bn bp a5=>?_);simp;refine A7 b up b.length rfl ln aN (by omega) (by omega) fb (λvs aO am ar=>?_);obtain⟨c0,b7⟩:∃c0,a.length+1=c0+b.length:=⟨a.length+1 - b.length,by omega⟩;have bq:(a.length:Int)+1 - b.length=c0:=by omega
     simp(disch:=omega)[aK,bq];refine⟨by omega,?_⟩;obtain⟨V,hV⟩:∃V,V=val 4294967296 vs:=⟨_,rfl⟩;have br:V<4294967296^b.length:=by rw[hV,ar];exact fb
     have al:0<V:=by rw[hV,ar,vn];exact Nat.mul_pos (by omega) (auk up)
     have a6:T*4294967296^(b.length - 1)<=V:=by have:=RJ (B:=4294967296) (n:=b.length - 1) (l:=b) (by omega);rw[hV,ar,hT,atP,atN];exact asK _ this
     have b8:2147483648<=dg vs (b.length - 1):=by have:=SA (by omega) (show vs.length=b.length - 1+1 by omega) am (by rw[<-hV];exact a6);omega
     refine aa.loop (ι:=List Nat × List Nat × Nat) (λ⟨us,qs,c⟩=>⟨180,[(8,.val (.int .u64 up)),(9,.view 0 0 (a.length+1)),(10,.view 1 0 b.length),(11,.val (.int .i64 b.length)),(12,.view 2 0 c0),(13,.val (.int .i64 ((c:Int) - 1)))],
       [some ⟨1,us.map u32,false⟩,some ⟨1,vs.map u32,false⟩,some ⟨1,qs.map u32,false⟩]⟩)
      (λ⟨us,qs,c⟩=>us.length=a.length+1∧qs.length=c0∧c<=c0∧(∀d∈us,d<4294967296)∧(∀d∈qs,d<4294967296)∧val 4294967296 us<V*4294967296^c∧m*2^up=val 4294967296 us+V*(4294967296^c*val 4294967296 (qs.drop c)))
      (λ⟨us,qs,c⟩=>c) (us,List.replicate c0 0,c0) ?_ ?_ ?_
     ·refine⟨bn,by simp,by omega,bp,by simp,?_,?_⟩
      ·rw[a5];have h1:=lP a lm;have h2:2^up<=2147483648:=atS (by omega) (show up<=31 by omega);have h3:val 4294967296 a*2^up<=val 4294967296 a*2147483648:=atQ _ h2;have h4:val 4294967296 a*2147483648<4294967296^a.length*2147483648:=auF h1 (by omega);have h5:4294967296^a.length=4294967296^(b.length - 1)*4294967296^c0:=by rw[<-Nat.pow_add];congr 1;omega
       have h6:2147483648*4294967296^(b.length - 1)<=V:=atj (asK _ (by omega)) a6;have h7:=asK (4294967296^c0) h6;have h8:4294967296^a.length*2147483648=2147483648*4294967296^(b.length - 1)*4294967296^c0:=by rw[h5];grind
       omega
      ·rw[a5,vm];simp[val]
     ·simp[aR,hC]
     ·rintro⟨us,qs,c⟩ ⟨g1,g2,g3,g4,g5,g6,g7⟩;cases c with
      | zero =>
       have au:val 4294967296 us<V:=by simpa using g6
       have bs:val 4294967296 (us.take b.length)=val 4294967296 us:=PA (auM au br) (by omega);have av:=LC (m:=m) (n:=n) (P:=2^up) (U:=val 4294967296 us) (Q:=val 4294967296 qs) (by omega) (auk up) (by rw[g7,hV,ar,vn];simp) (by rw[<-vn,<-ar,<-hV];exact au);simp;refine aa.asj (.qs [0,2,3,4,5]<|.l 1 []<|.l 6 []<|.qs [7,8]<|.nil) ?_;simp;refine⟨by omega,?_⟩;refine bg (nZ qs (by omega)) (by simp[aud,g2]) ?_;simp;refine bg (Me (us.take b.length) up (tG g4) aN (by simp;omega)) (by simp[g1,auD];omega) ?_;rw[bs,av.2,<-av.1,gI B2 qs g5];simp
      | succ j =>
       simp(disch:=omega)[];refine aa.asj (.qs [0,1,2,3,4,5,6,7,8,9,10,11,12,13,14,15,16,17]<|.nil) ?_;have bt:=dT g4 (by omega) (j+b.length);have bu:=dT g4 (by omega) (j+b.length - 1);simp(disch:=omega)[aK,bB,ig,l7];refine⟨⟨by omega,by omega⟩,by omega,⟨by omega,by omega⟩,by omega,?_⟩;refine aa.asj (.qs [0,1,2,3,4,5,6,7,8,9,10,11,12,13,14,15,16,17]<|.nil) ?_;simp(disch:=omega)[aK,bB];have b9:=dT am (by omega) (b.length - 1);have bv:=dT am (by omega) (b.length - 2);have ca:=dT g4 (by omega) (j+b.length - 2);have bx:¬(dg vs (b.length - 1):Int)=0:=by omega
       simp(disch:=omega)[ig,Int.tdiv_eq_ediv_of_nonneg,auQ];repeat refine And.intro (by omega) ?_
       obtain⟨S,hS,bz,bA,aw,aH,an,a7,ao,ax,bC⟩:=GS B2 g4 am (show j+b.length+1<=us.length by omega) aO (by omega) (by rw[<-hV];exact g6);rw[<-hV]at aH ao;obtain⟨U,hU⟩:∃U,U=val 4294967296 S:=⟨_,rfl⟩;rw[<-hU]at aw aH an;obtain⟨top,aQ⟩:∃top,top=dg us (j+b.length)*4294967296+dg us (j+b.length - 1):=⟨_,rfl⟩;obtain⟨v1,ac⟩:∃v1,v1=dg vs (b.length - 1):=⟨_,rfl⟩;obtain⟨v2,ap⟩:∃v2,v2=dg vs (b.length - 2):=⟨_,rfl⟩;obtain⟨u2,ad⟩:∃u2,u2=dg us (j+b.length - 2):=⟨_,rfl⟩;have cb:dg us (j+b.length)<=dg vs (b.length - 1):=RV ao an ax bv aH;have et:(dg us (j+b.length):Int)*4294967296+dg us (j+b.length - 1)=top:=by omega
       rw[<-aQ,<-ad]at an;rw[<-ac,<-ap]at ao;have ae:0<v1:=by omega
       have ay:top<(v1+1)*4294967296:=by rw[asn];omega
       have q0:U / V<=top / v1:=EH ao an a7 (by omega) ae;have qB:U / V<4294967296:=by rw[aum al,atN];exact aH
       have g0:top / v1<=4294967297:=by
        have:top / v1<4294967298:=by rw[aum ae];omega
        omega
       have ed:(top:Int) / v1=((top / v1:Nat):Int):=by simp
       have ew:IntKind.u64.wrap ((top:Int) / v1)=(top:Int) / v1:=by rw[ed];generalize top / v1=z at g0;rw[ig];omega
       have az:∀g r,g*v1+r=top->U / V<=g->g<4294967296->g*v2<=r*4294967296+u2->Ek (U / V) g:=λg r h1 h2 h3 h4 =>
        Gz rfl al h2 (Ju ao an ax ae (by omega) h1 h4 (by omega))
       refine aa.cut (λe st'=>e=.exit 4∧∃g:Nat,Ek (U / V) g∧g<4294967296∧aR C st' ⟨180,[(8,.val (.int .u64 up)),(9,.view 0 0 (a.length+1)),(10,.view 1 0 b.length),(11,.val (.int .i64 b.length)),(12,.view 2 0 c0),(13,.val (.int .i64 j)),(15,.val (.int .u64 g))],
        [some ⟨1,us.map u32,false⟩,some ⟨1,vs.map u32,false⟩,some ⟨1,qs.map u32,false⟩]⟩) ?_ ?_
       ·refine aa.loop (ι:=Nat × Nat) (λ⟨g,r⟩=>⟨180,[(8,.val (.int .u64 up)),(9,.view 0 0 (a.length+1)),(10,.view 1 0 b.length),(11,.val (.int .i64 b.length)),(12,.view 2 0 c0),(13,.val (.int .i64 j)),(15,.val (.int .u64 g)),(16,.val (.int .u64 r))],
          [some ⟨1,us.map u32,false⟩,some ⟨1,vs.map u32,false⟩,some ⟨1,qs.map u32,false⟩]⟩)
         (λ⟨g,r⟩=>g*v1+r=top∧U / V<=g∧g<=4294967297∧r<4294967296) (λ⟨g,r⟩=>g) (top / v1,top % v1) ?_ ?_ ?_
        ·refine⟨?_,q0,g0,?_⟩
         ·have:=auL top v1;rw[atN]at this;exact this
         ·have:=asW top ae;omega
        ·simp[aR,hC,et,ew,<-ac]
        ·rintro⟨g,r⟩ ⟨k1,k2,k3,k4⟩;have body:∀g1,g=g1+1->U / V<g->(g1*v1+(r+v1)=top∧U / V<=g1∧g1<=4294967297)∧(4294967296<=r+v1->Ek (U / V) g1∧g1<4294967296):=by
          intro g1 bD aP;subst bD;have e:g1*v1+(r+v1)=top:=by rw[<-k1,asn];omega
          refine⟨⟨e,by omega,by omega⟩,λhr=>?_⟩;have a8:g1<4294967296:=by
           have:g1*v1<4294967296*v1:=by rw[asn]at ay;omega
           exact auI this
          refine⟨az g1 (r+v1) e (by omega) a8 ?_,a8⟩;have h1:g1*v2<=4294967296*4294967296:=aus (by omega) (by omega);have h2:=asK 4294967296 hr;omega
         simp(disch:=omega);refine aa.asj (.qs [0,1,2,3,4,5,6,7,8,9,10,11,12,13,14,15,16,17,18,19,20,21,22,23,24]<|.nil) ?_;by_cases hA:4294967296<=g
         ·obtain⟨g1,rfl⟩:∃g1,g=g1+1:=⟨g - 1,by omega⟩;have aI:0<((g1:Int)+1) / 4294967296:=by omega
          obtain⟨⟨b1,b2,b3⟩,b4⟩:=body g1 rfl (by omega);by_cases hr:4294967296<=r+v1
          ·have ai:0<((r:Int)+v1) / 4294967296:=by omega
           simp(disch:=omega)[aK,ig,bB,aI,ai,<-ac];refine⟨by omega,by omega,g1,(b4 hr).1,(b4 hr).2,by simp[aR,hC]⟩
          ·have ai:¬0<((r:Int)+v1) / 4294967296:=by omega
           simp(disch:=omega)[aK,ig,bB,aI,ai,<-ac];refine⟨by omega,by omega,g1,r+v1,⟨b1,b2,b3,by omega⟩,by omega,by simp[aR,hC]⟩
         ·have aI:¬0<(g:Int) / 4294967296:=by omega
          have bE:g*v2<=4294967295*4294967295:=aus (by omega) (by omega);have aB:(g:Int)*v2<=18446744065119617025:=by rw[<-auv];omega
          have aC:(0:Int)<=(g:Int)*v2:=by rw[<-auv];omega
          by_cases hB:r*4294967296+u2<g*v2
          ·have bF:(r:Int)*4294967296+u2<(g:Int)*v2:=by rw[<-auv];omega
           have a9:U / V<g:=Ki ao an a7 (auH U V) k1 hB;have cc:0<g:=Nat.lt_of_le_of_lt (Nat.zero_le _) a9;obtain⟨g1,rfl⟩:∃g1,g=g1+1:=⟨g - 1,by omega⟩;obtain⟨⟨b1,b2,b3⟩,b4⟩:=body g1 rfl a9;have ba:¬0<((g1:Int)+1) / 4294967296:=by omega
           have ag:((g1+1:Nat):Int)*v2=((g1:Int)+1)*v2:=by push_cast;rfl
           rw[ag]at aB aC;have aE:=bF;rw[ag]at aE;by_cases hr:4294967296<=r+v1
           ·have ai:0<((r:Int)+v1) / 4294967296:=by omega
            simp(disch:=omega)[aK,ig,bB,l7,ba,aE,ai,<-ac,<-ap,<-ad];refine⟨by omega,by omega,by omega,by omega,by omega,by omega,g1,(b4 hr).1,(b4 hr).2,by simp[aR,hC]⟩
           ·have ai:¬0<((r:Int)+v1) / 4294967296:=by omega
            simp(disch:=omega)[aK,ig,bB,l7,ba,aE,ai,<-ac,<-ap,<-ad];refine⟨by omega,by omega,by omega,by omega,by omega,by omega,g1,r+v1,⟨b1,b2,b3,by omega⟩,by omega,by simp[aR,hC]⟩
          ·have aE:¬(r:Int)*4294967296+u2<(g:Int)*v2:=by rw[<-auv];omega
           simp(disch:=omega)[aK,ig,bB,l7,aI,aE,<-ac,<-ap,<-ad];refine⟨by omega,by omega,by omega,by omega,g,az g r k1 k2 (by omega) (by omega),by omega,by simp[aR,hC]⟩
       ·rintro e st' ⟨rfl,g,hg,bG,hle⟩;refine⟨_,hle,?_⟩;simp(disch:=omega)[aK];refine⟨by omega,?_⟩;have aS:us=us.take j++(S++us.drop (j+b.length+1)):=by
         have:us.drop (j+b.length+1)=(us.drop j).drop (b.length+1):=by rw[auB,asM]
         rw[hS,this,auC,auC]
        have a4:V<=4294967296^S.length:=by rw[bz,atL];omega
        have fin:∀o',o'.length=S.length->(∀d∈o',d<4294967296)->val 4294967296 o'=U % V ->
          (us.take j++(o'++us.drop (j+b.length+1))).length=a.length+1∧(qs.set j (U / V)).length=c0∧j<=c0∧(∀d∈us.take j++(o'++us.drop (j+b.length+1)),d<4294967296)∧(∀d∈qs.set j (U / V),d<4294967296) ∧
          val 4294967296 (us.take j++(o'++us.drop (j+b.length+1)))<V*4294967296^j∧m*2^up=val 4294967296 (us.take j++(o'++us.drop (j+b.length+1)))+V*(4294967296^j*val 4294967296 ((qs.set j (U / V)).drop j)):=by
         intro o' h1 h2 h3;have hv:val 4294967296 (us.take j++(o'++us.drop (j+b.length+1)))=val 4294967296 (us.take j)+4294967296^j*(U % V):=by rw[cU,cU,bC,h3,auf,auh (by omega)];simp
         have hL:=jR g4 (show j<=us.length by omega);have hr:=asW U al;refine⟨by simp;omega,by simpa using g2,by omega,?_,kd _ g5 qB,?_,?_⟩
         ·intro d hd;rcases ath.1 hd with hd | hd
          ·exact tG g4 d hd
          ·rcases ath.1 hd with hd | hd
           ·exact h2 d hd
           ·exact CH g4 d hd
         ·rw[hv];have:=atQ (4294967296^j) (show U % V+1<=V from hr);rw[atM,Nat.mul_one,atN (4294967296^j) V]at this;omega
         ·rw[hv,dm _ (qs.set j (U / V)),nH _ (by omega),if_pos rfl,fj];rw[aw,atL]at g7;exact JI g7 (auL U V).symm
        refine zS ((us.take j).map u32) ((us.drop (j+b.length+1)).map u32) S vs g ?_ (by simp[aA]) (by omega) (by simp;omega) (by omega) aO.symm bA am bG (by omega) (by omega) (λo bw aT aU cd aV=>?_)
        ·simp only[aA];rw[<-atE,<-atE,<-aS]
        ·rw[<-hU,<-hV]at aV;by_cases ce:0<bw
         ·obtain rfl:bw=1:=by omega
          simp(disch:=omega)[aK];refine⟨by omega,?_⟩;refine z9 ((us.take j).map u32) ((us.drop (j+b.length+1)).map u32) o vs ?_ (by simp[aA]) (by omega) (by simp;omega) (by omega) aO.symm aU am (by omega) (by omega) (λo' c1 bH bb bc=>?_)
          ·simp[aA]
          ·rw[<-hV,aT]at bc;obtain⟨f1,f2⟩:=take_one al a4 hg (by simpa using aV) (by rw[<-aT];exact lP o aU) bc (by rw[<-aT,<-bH];exact lP o' bb);obtain⟨G1,G2,G3,G4,G5,G6,G7⟩:=fin o' (by omega) bb f2;generalize U / V=q at *;subst f1;have aW:(q:Int) % 4294967296=q:=by omega
           simp(disch:=omega)[aK,ig,ix,bB,aW];refine⟨by omega,by omega,_,qs.set j q,j,⟨G1,G2,G3,G4,G5,G6,G7⟩,by omega,by simp[aR,hC,ec]⟩
         ·obtain rfl:bw=0:=by omega
          obtain⟨f1,f2⟩:=take_zero al hg (by simpa using aV);obtain⟨G1,G2,G3,G4,G5,G6,G7⟩:=fin o (by omega) aU f2;generalize U / V=q at *;subst f1;have aW:(g:Int) % 4294967296=g:=by omega
          simp(disch:=omega)[aK,ix,bB,aW];refine⟨by omega,by omega,_,qs.set j g,j,⟨G1,G2,G3,G4,G5,G6,G7⟩,by omega,by simp[aR,hC,ec]⟩
end Go.Proofs
namespace Go.Proofs
open Go.Sv Go Go.Pl
theorem J1{x y q r:Int}(hy:y≠0)(h:x=r+y*q)(h0:0<=r)(h1:r<y.natAbs):x / y=q∧x % y=r:=by
 subst h;rw[Int.add_mul_ediv_left _ _ hy,Int.add_mul_emod_self_left];rcases Int.lt_or_gt_of_ne hy with h | h
 ·have e1:r / y=0:=by
   rw[show y = -(-y) by omega,Int.ediv_neg,auR h0 (by omega)];rfl
  have e2:r % y=r:=by rw[show y = -(-y) by omega,Int.emod_neg,auS h0 (by omega)]
  rw[e1,e2];simp
 ·rw[auR h0 (by omega),auS h0 (by omega)];simp
theorem Ch{x y:Int}(h:y.natAbs<=x.natAbs)(hx:fit x):fit y:=atj (cq (by omega) h) hx
theorem uM{x:Int}(h:x.natAbs<4294967296^3):fit x:=atj (iS (by omega) h) (by omega)
theorem yH(b:Bool)(n:Nat)(h:wid 4294967296 n<=1000000000000):aG Tryz.prog 136 [.val (.bool b),.ro ((bO 4294967296 n).map u32)] (cR (if b=true then -(n:Int) else(n:Int))):=by
 have:=kD b (bO 4294967296 n) (by simp only[wid]at h;omega) (cV (by omega) n)
 rwa [ct (by omega)]at this
theorem Ar(x y:Int)(hx:fit x)(hy:fit y) :
  aG Tryz.prog 134 [cR x,cR y] (.bP [cR (x / y),cR (if y=0 then 0 else x % y),.val (.bool (decide (y≠0)))]):=by
 refine aj Tryz.func134 rfl (by simp) (λC hC=>?_);by_cases h0:y=0
 ·subst h0;simp[cR,bj]
 ·have bd:y.natAbs≠0:=by omega
  have aM:¬(bO 4294967296 y.natAbs)=[]:=λh=>bd ((bX (by omega)).1 h);have bI:x.natAbs / y.natAbs<=x.natAbs:=Nat.div_le_self _ _;have bJ:x.natAbs % y.natAbs<=x.natAbs:=Nat.mod_le _ _;have cf:=asW x.natAbs (show 0<y.natAbs by omega);have bK:=auL x.natAbs y.natAbs;have hl:=HL x.natAbs y.natAbs bd (atj hx (by omega)) (atj hy (by omega));generalize x.natAbs / y.natAbs=Q at *;generalize x.natAbs % y.natAbs=R at *;have be:=yH (decide (x<0) != decide (y<0)) Q (atj (cq (by omega) bI) hx);have aJ:=yH (decide (x<0)) R (atj (cq (by omega) bJ) hx);obtain⟨q,hq⟩:∃q,q=(if(decide (x<0) != decide (y<0))=true then -(Q:Int) else(Q:Int)):=⟨_,rfl⟩;obtain⟨r,hr⟩:∃r,r=(if decide (x<0)=true then -(R:Int) else(R:Int)):=⟨_,rfl⟩;rw[<-hq]at be;rw[<-hr]at aJ;have aY:x=r+y*q:=by
   have af:(y.natAbs:Int)*Q+R=x.natAbs:=by rw[<-auv,<-Int.natCast_add,bK]
   by_cases h1:x<0<;>by_cases h2:y<0
   ·have e1:(x.natAbs:Int) = -x:=by omega
    have e2:(y.natAbs:Int) = -y:=by omega
    rw[e1,e2]at af;simp[h1,h2]at hq hr;subst hq hr;grind
   ·have e1:(x.natAbs:Int) = -x:=by omega
    have e2:(y.natAbs:Int)=y:=by omega
    rw[e1,e2]at af;simp[h1,h2]at hq hr;subst hq hr;grind
   ·have e1:(x.natAbs:Int)=x:=by omega
    have e2:(y.natAbs:Int) = -y:=by omega
    rw[e1,e2]at af;simp[h1,h2]at hq hr;subst hq hr;grind
   ·have e1:(x.natAbs:Int)=x:=by omega
    have e2:(y.natAbs:Int)=y:=by omega
    rw[e1,e2]at af;simp[h1,h2]at hq hr;subst hq hr;grind
  have cg:r.natAbs=R:=by rw[hr];split<;>omega
  have ch:q.natAbs=Q:=by rw[hq];split<;>omega
  have fq:fit q:=Ch (x:=x) (by omega) hx;have fr:fit r:=Ch (x:=x) (by omega) hx;simp[cR,aM,h0];refine bg hl (by simp) ?_;simp;refine aa.asj (.qs [0,1,2,3,4,5,7,8,9]<|.l 6 []<|.l 10 []<|.l 11 [2]<|.l 12 [3]<|.nil) ?_;simp;refine bg be (by simp[bne]) ?_;simp;refine bg aJ (by simp) ?_;by_cases aZ:r<0
  ·have ha:=rZ r (y.natAbs:Int) fr (by simpa[fit]using hy);have ci:¬(y.natAbs:Int)<0:=by omega
   simp[cR,aZ,bne];refine bg ha (by simp[cR,aZ]) ?_;simp[cR];by_cases bf:y<0
   ·obtain⟨u1,u2⟩:=J1 (x:=x) (y:=y) (q:=q+1) (r:=r+y.natAbs) h0 (by rw[aY];grind) (by omega) (by omega);have a0:¬(0:Int)<=y:=by omega
    simp[bf,a0];refine aa.asj (.qs [0]<|.l 1 []<|.l 2 []<|.l 3 [2]<|.nil) ?_;simp;refine bg (m4 1 (by omega) (by omega)) (by simp) ?_;simp[cR];refine bg (rZ q 1 fq (uM (by simp))) (by simp[cR]) ?_;simp[cR];refine aa.asj (.qs [0]<|.q 1 [2]<|.l 2 [2]<|.l 3 [3]<|.qs [4]<|.nil) ?_;simp[u1,u2];try omega
   ·obtain⟨u1,u2⟩:=J1 (x:=x) (y:=y) (q:=q - 1) (r:=r+y.natAbs) h0 (by rw[aY];grind) (by omega) (by omega);have a0:0<=y:=by omega
    simp[bf,a0];refine aa.asj (.qs [0]<|.l 1 []<|.l 2 []<|.l 3 [2]<|.nil) ?_;simp;refine bg (m4 1 (by omega) (by omega)) (by simp) ?_;simp[cR];refine bg (Lb q 1 fq (uM (by simp))) (by simp[cR]) ?_;simp[cR];refine aa.asj (.qs [0]<|.q 1 [2]<|.l 2 [2]<|.l 3 [3]<|.qs [4]<|.nil) ?_;simp[u1,u2];try omega
  ·obtain⟨u1,u2⟩:=J1 (x:=x) (y:=y) (q:=q) (r:=r) h0 aY (by omega) (by omega);simp[cR,aZ];refine aa.asj (.qs [0]<|.q 1 [2]<|.l 2 [2]<|.l 3 [3]<|.qs [4]<|.nil) ?_;simp[u1,u2];try omega
end Go.Proofs
namespace Go.Proofs
open Go.Sv Go Go.Pl
theorem x9{n:Nat}(h:wid 4294967296 n<=2):n<18446744073709551616:=by have:=pE (B:=4294967296) (by omega) n;have:=Nat.lt_of_lt_of_le this (atS (by omega) h);simpa using this
theorem L0(m n:Nat)(hm:wid 4294967296 m<=2)(hn:wid 4294967296 n<=2) :
  aG Tryz.prog 174 [.ro ((bO 4294967296 m).map u32),.ro ((bO 4294967296 n).map u32)] (cR (auN m n:Nat)):=by
 refine aj Tryz.func174 rfl (by simp) (λC hC=>?_);have wm:=H7 (bO 4294967296 m) (cV (by omega) m) hm;have wn:=H7 (bO 4294967296 n) (cV (by omega) n) hn;rw[ct (by omega)]at wm wn;have bL:=x9 hm;have bM:=x9 hn;simp;refine bg wm (by simp) ?_;simp;refine bg wn (by simp) ?_;simp;refine aa.loop (ι:=Nat × Nat) (λ⟨x,y⟩=>⟨24,[(4,.ptr 0 0 0),(5,.val (.int .u64 x)),(6,.val (.int .u64 y))],[some ⟨2,[.agg [.val (.bool false),.val (.slice none 0 0)]],false⟩]⟩)
  (λ⟨x,y⟩=>x<18446744073709551616∧y<18446744073709551616∧auN x y=auN m n) (λ⟨x,y⟩=>y) (m,n) ?_ ?_ ?_
 ·exact⟨bL,bM,rfl⟩
 ·simp[aR,hC]
 ·rintro⟨x,y⟩ ⟨h1,h2,h3⟩;by_cases hy:0<y
  ·simp[hy];refine aa.asj (.qs [0,1,2,3,4,5]<|.nil) ?_;simp(disch:=omega)[auQ];refine⟨by omega,y,x % y,⟨h2,auM (asW _ hy) h2,by rw[<-h3,auO x y,auP y x,auO]⟩,asW _ hy,by simp[aR,hC]⟩
  ·obtain rfl:y=0:=by omega
   simp at h3;subst h3;have aF:=kD false [auN m n % 4294967296,auN m n / 4294967296] (by simp) (by simp;omega);simp[val]at aF;generalize auN m n=g at *;rw[show((g:Int) % 4294967296+4294967296*((g:Int) / 4294967296))=g by omega]at aF;have e:(g:Int) / 4294967296 % 4294967296=(g:Int) / 4294967296:=by omega
   simp(disch:=omega)[ix,e];refine bg aF (by simp) ?_;simp
theorem Ny(m n:Nat):auN n (m % n)=auN m n:=by rw[auO m n,auP n m,auO]
theorem Sy(x y:Int)(hx:fit x)(hy:fit y):aG Tryz.prog 132 [cR x,cR y] (cR (auT x y:Nat)):=by
 refine aj Tryz.func132 rfl (by simp) (λC hC=>?_);simp[cR];refine aa.asj (.qs [0,1,2,3,4,5]<|.nil) ?_;simp;refine aa.loop (ι:=Nat × Nat) (λ⟨m,n⟩=>⟨39,[(4,.ptr 2 0 0),(5,.ro ((bO 4294967296 m).map u32)),(6,.ro ((bO 4294967296 n).map u32))],
   [some ⟨2,[.agg [.val (.bool (decide (x<0))),.ro ((bO 4294967296 x.natAbs).map u32)]],false⟩,some ⟨2,[.agg [.val (.bool (decide (y<0))),.ro ((bO 4294967296 y.natAbs).map u32)]],false⟩,some ⟨2,[.agg [.val (.bool false),.val (.slice none 0 0)]],false⟩]⟩)
  (λ⟨m,n⟩=>wid 4294967296 m<=1000000000000∧wid 4294967296 n<=1000000000000∧auN m n=auT x y) (λ⟨m,n⟩=>n) (x.natAbs,y.natAbs) ?_ ?_ ?_
 ·exact⟨hx,hy,rfl⟩
 ·simp[aR,hC]
 ·rintro⟨m,n⟩ ⟨h1,h2,h3⟩;by_cases hn:n=0
  ·subst hn;simp at h3;subst h3;have aF:=yH false _ h1;simp only[wid]at h1;simp[bj];refine⟨by omega,?_⟩;refine bg aF (by simp[aud]) ?_;simp[cR]
  ·have hl:0<(bO 4294967296 n).length:=List.length_pos_iff.2 λh=>hn ((bX (by omega)).1 h);have ah:=HL m n hn (by omega) (by omega);have hr:=asW m (show 0<n by omega);have ht:=nZ (bO 4294967296 (m % n)) (by
    have:=cq (B:=4294967296) (by omega) (auJ hr);simp only[wid]at this h2;omega)
   rw[AI (by omega)]at ht;have go:∀st',aR C st' ⟨39,[(4,.ptr 2 0 0),(5,.ro ((bO 4294967296 n).map u32)),(6,.ro ((bO 4294967296 (m % n)).map u32))],
     [some ⟨2,[.agg [.val (.bool (decide (x<0))),.ro ((bO 4294967296 x.natAbs).map u32)]],false⟩,some ⟨2,[.agg [.val (.bool (decide (y<0))),.ro ((bO 4294967296 y.natAbs).map u32)]],false⟩,some ⟨2,[.agg [.val (.bool false),.val (.slice none 0 0)]],false⟩]⟩->
     ∃m' n',(wid 4294967296 m'<=1000000000000∧wid 4294967296 n'<=1000000000000∧auN m' n'=auT x y)∧n'<n∧aR C st' ⟨39,[(4,.ptr 2 0 0),(5,.ro ((bO 4294967296 m').map u32)),(6,.ro ((bO 4294967296 n').map u32))],
     [some ⟨2,[.agg [.val (.bool (decide (x<0))),.ro ((bO 4294967296 x.natAbs).map u32)]],false⟩,some ⟨2,[.agg [.val (.bool (decide (y<0))),.ro ((bO 4294967296 y.natAbs).map u32)]],false⟩,some ⟨2,[.agg [.val (.bool false),.val (.slice none 0 0)]],false⟩]⟩ :=
    λst' hle=>⟨n,m % n,⟨h2,atj (cq (by omega) (auJ hr)) h2,by rw[Ny];exact h3⟩,hr,hle⟩
   by_cases aJ:(bO 4294967296 m).length<=2
   ·by_cases bN:(bO 4294967296 n).length<=2
    ·have hs:=L0 m n aJ bN;have ab:((bO 4294967296 m).length:Int)<=2:=by omega
     have ak:((bO 4294967296 n).length:Int)<=2:=by omega
     simp[hl,ab,ak];refine bg hs (by simp) ?_;simp[cR,h3]
    ·have ab:((bO 4294967296 m).length:Int)<=2:=by omega
     have ak:¬((bO 4294967296 n).length:Int)<=2:=by omega
     simp[hl,ab,ak];refine bg ah (by simp) ?_;simp;refine bg ht (by simp) ?_;simp;exact go _ (by simp[aR,hC])
   ·have ab:¬((bO 4294967296 m).length:Int)<=2:=by omega
    simp[hl,ab];refine bg ah (by simp) ?_;simp;refine bg ht (by simp) ?_;simp;exact go _ (by simp[aR,hC])
end Go.Proofs
namespace Go.Proofs
open Go.Sv Go Go.Pl
def SC(x:Int):Prop := -9223372036854775808<=x∧x<=9223372036854775807
instance (x:Int):Decidable (SC x):=inferInstanceAs (Decidable (_∧_))
end Go.Proofs
namespace Go.Proofs
open Go.Sv Go Go.Pl
theorem BK(k:Nat)(A B:aD):eE k (A++B)=(eE k A&&eE k B):=by
 induction A with
 | nil=>simp[eE]
 | cons x A ih=>cases x<;>simp[eE,Bool.and_assoc]
theorem yd{C:Ctx}{M:aD}{k n:Nat}{K:aD->List Nat->SV->Prop}(l:List Nat)(b d:Nat){d':Int}(bQ:d'=d)(hn:n=l.length)(hk:aA M k=some ⟨1,l.map u32,false⟩)(hl:l.length<=4398046511103)(hx:∀d∈l,d<4294967296)(hb:b<4294967296)(hd:d<4294967296)
  (bR:k∉C.fx) (bS:∀xs:List Nat,eE k (aX M k (some ⟨1,xs.map u32,false⟩))=true) (hK:∀(l':List Nat) (J:aD),(∀d∈l',d<4294967296)->l'.length<=l.length+1->val 4294967296 l'=val 4294967296 l*b+d->K (aX M k (some ⟨1,l'.map u32,false⟩)++J) [k] (.view k 0 l'.length)) :
  dN Tryz.prog C 182 [.view k 0 n,.val (.int .u32 b),.val (.int .u32 d')] M none K:=by
 subst bQ hn;refine dV Tryz.func182 rfl (by simp) [k] (by simpa using bR) (by simp) (λC' hC=>?_);have bU:k∉C'.fx:=by rw[hC];simp
 simp(disch:=omega)[ig];refine aa.loop (ι:=List Nat × Nat × Nat) (λ⟨o,i,c⟩=>⟨43,[(0,.view k 0 l.length),(1,.val (.int .u32 b)),(7,.val (.int .u64 c)),(13,.val (.int .i64 l.length)),(14,.val (.int .i64 i))],aX M k (some ⟨1,o.map u32,false⟩)⟩)
  (λ⟨o,i,c⟩=>o.length=l.length∧i<=l.length∧(∀d∈o,d<4294967296)∧c<4294967296∧o.drop i=l.drop i∧val 4294967296 (o.take i)+4294967296^i*c=val 4294967296 (l.take i)*b+d)
  (λ⟨o,i,c⟩=>l.length - i) (l,0,d) ?_ ?_ ?_
 ·exact⟨rfl,by omega,hx,hd,rfl,by simp[val]⟩
 ·simp[aR,mN hk]
 ·rintro⟨o,i,c⟩ ⟨h1,h2,h3,h4,h5,h6⟩;have aL:=ia (M:=M) (k:=k) ⟨1,o.map u32,false⟩ hk;by_cases aP:i<l.length
  ·have bo:=dT h3 (by omega) i;have ho:dg o i=dg l i:=ue h5;obtain⟨t,ht⟩:∃t,t=dg o i*b+c:=⟨_,rfl⟩;have bE:dg o i*b<=4294967295*4294967295:=aus (by omega) (by omega);have aB:(dg o i:Int)*b<=18446744065119617025:=by rw[<-auv];omega
   have aC:(0:Int)<=(dg o i:Int)*b:=by rw[<-auv];omega
   have e1:(dg o i:Int)*b+c=t:=by rw[ht];push_cast;rfl
   obtain⟨c',bV⟩:∃c',c'=t / 4294967296:=⟨_,rfl⟩;obtain⟨lo,bW⟩:∃lo,lo=t % 4294967296:=⟨_,rfl⟩;have e2:(t:Int) % 4294967296=lo:=by omega
   have e3:(t:Int) / 4294967296=c':=by omega
   have a1:lo<4294967296:=by omega
   have F:=kd i h3 a1;have G:val 4294967296 ((o.set i lo).take (i+1))+4294967296^(i+1)*c'=val 4294967296 (l.take (i+1))*b+d:=by rw[du _ (by omega),cU,auf,auh (by omega),dr,atL];simp only[val,aut,as3];have e:=Nat.mod_add_div t 4294967296;rw[<-bW,<-bV,ht,ho]at e;generalize 4294967296^i=P at *;grind
   have D:(o.set i lo).drop (i+1)=l.drop (i+1):=by rw[fj];exact jg h5
   simp(disch:=omega)[aK,ig,aP,aL,bB,ix,lS,e1,e2,e3, -List.map_set];repeat refine And.intro (by omega) ?_
   refine⟨o.set i lo,i+1,c',⟨by simpa using h1,by omega,F,by omega,D,G⟩,by omega,by simp[aR]⟩
  ·obtain rfl:i=l.length:=by omega
   rw[List.take_length,aud (by omega)]at h6;by_cases hc:0<c
   ·have q1:=λx=>oa x aL;have q2:=λx=>KN (M:=aX M k (some ⟨1,o.map u32,false⟩)) (n:=M.length) x (by simp);have q3:=λx y=>tK x y aL;have e:(c:Int) % 4294967296=c:=by omega
    simp(disch:=omega)[hc,ix,bU,h1,q1,q2,q3,e,BK,bS];refine⟨by omega,?_⟩;have:=hK (o++[c]) [some ⟨1,[.val (.int .u32 c)],false⟩] (nP h3 h4) (by simp;omega) (by rw[cU,h1];simpa[val]using h6);simpa[h1]using this
   ·obtain rfl:c=0:=by omega
    simp(disch:=omega)[];have:=hK o [] h3 (by omega) (by simpa using h6);rw[h1]at this;simpa using this
end Go.Proofs

