/- A text of the prover's own. -/
import Derived.Test.YtmghjkkjaolpgaaGreatDoorUWa
open List renaming drop_drop→an1,take_append_drop→an2,length_take→anG,take_of_length_le→anE,map_take→an3,mem_append→amO,map_append→anb
open Nat renaming pow_pos→an4,add_assoc→amj,min_eq_left→anI,eq_zero_or_pos→amy,mul_le_mul_left→ann,mul_add→ank,mul_lt_mul_of_pos_right→an5,mul_zero→anU,add_zero→amA,pow_succ→anj,lt_of_mul_lt_mul_left→an6,div_mul_le_self→an7,add_mul→alV,mul_le_mul_right→amh,lt_of_mul_lt_mul_right→an8,le_of_lt→an9,two_pow_pos→anL,mul_comm→anl,mul_assoc→anm,mul_right_comm→aoa,div_eq_of_lt→anP,mod_eq_of_lt→anR,div_add_mod→aob,mod_lt→amt,lt_or_ge→amz,pow_le_pow_right→ano,le_trans→amQ,lt_trans→aoc,div_lt_iff_lt_mul→anN,mul_le_mul→anT,gcd→aod,gcd_comm→aoe,gcd_rec→aof
open Int renaming tmod_eq_emod_of_nonneg→aog,natCast_mul→anW,ediv_eq_zero_of_lt→aoh,emod_eq_of_lt→aoi,gcd→aoj
set_option maxRecDepth 20000
set_option maxHeartbeats 8000000
namespace Go.Pl
theorem yz{l:List Nat}{n i:Nat}(h:i<n):dg (l.take n) i=dg l i:=by
 unfold dg;simp[List.getElem?_take,h]
theorem wF(l:List Nat)(n i:Nat):dg (l.drop n) i=dg l (n+i):=by
 unfold dg;simp[List.getElem?_drop]
theorem q9{B n:Nat}{l:List Nat}(h:∀d∈l,d<B):∀d∈l.take n,d<B:=fun d hd=>h d (List.mem_of_mem_take hd)
theorem Aa{B n:Nat}{l:List Nat}(h:∀d∈l,d<B):∀d∈l.drop n,d<B:=fun d hd=>h d (List.mem_of_mem_drop hd)
theorem Jh{B j n:Nat}{us:List Nat}{V:Nat}(hB:2≤B)(hu:∀d∈us,d<B)(hl:j+n+1≤us.length)(hV:V<B^n)(h:val B us<V*B^(j+1)) :
  val B us=val B (us.take j)+B^j*val B ((us.drop j).take (n+1))∧val B ((us.drop j).take (n+1))<V*B∧((us.drop j).take (n+1)).length=n+1∧val B (us.drop (j+n+1))=0:=by
 have hp:0<B^j:=an4 (by omega);have e1:us=us.take j++((us.drop j).take (n+1)++us.drop (j+n+1)):=by
  have:us.drop (j+n+1)=(us.drop j).drop (n+1):=by rw[an1,amj]
  rw[this,an2,an2]
 have hlen:((us.drop j).take (n+1)).length=n+1:=by simp;omega
 have e2:val B us=val B (us.take j)+B^j*(val B ((us.drop j).take (n+1))+B^(n+1)*val B (us.drop (j+n+1))):=by
  conv=>lhs;rw[e1]
  rw[cP,cP,hlen,anG,anI (by omega)]
 have hz:val B (us.drop (j+n+1))=0:=by
  rcases amy (val B (us.drop (j+n+1)))with h0 | h0
  ·exact h0
  ·exfalso;have h1:B^j*(B^(n+1)*1)≤val B us:=by
    rw[e2];have:=ann (B^j) (ann (B^(n+1)) (show 1≤_ from h0));rw[ank];omega
   have h2:V*B^(j+1)<B^n*B^(j+1):=an5 hV (an4 (by omega));have h3:B^j*(B^(n+1)*1)=B^n*B^(j+1):=by grind
   omega
 rw[hz]at e2;simp only[anU,amA]at e2;refine⟨e2,?_,hlen,hz⟩;rw[e2,anj]at h;have h4:B^j*val B ((us.drop j).take (n+1))<B^j*(V*B):=by
  have:V*(B^j*B)=B^j*(V*B):=by grind
  omega
 exact an6 h4
theorem IW{B n:Nat}{S:List Nat}(h:S.length=n+3):val B S=((dg S (n+2)*B+dg S (n+1))*B+dg S n)*B^n+val B (S.take n):=by
 have e:S=S.take (n+3):=(anE (by omega)).symm
 conv=>lhs;rw[e]
 rw[dp,dp,dp];grind
theorem It{B n:Nat}{S:List Nat}(h:S.length=n+2):val B S=(dg S (n+1)*B+dg S n)*B^n+val B (S.take n):=by
 have e:S=S.take (n+2):=(anE (by omega)).symm
 conv=>lhs;rw[e]
 rw[dp,dp];grind
theorem jJ{B n:Nat}{S:List Nat}(h:∀d∈S,d<B)(hl:n≤S.length):val B (S.take n)<B^n:=by
 have:=kc (S.take n) (q9 h)
 rwa [anG,anI hl]at this
theorem BH{B K v1 v2 V0 top u2 U0 U V:Nat}(hV:V=(v1*B+v2)*K+V0)(hU:U=(top*B+u2)*K+U0)(hU0:U0<K)(hu2:u2<B)(hv1:0<v1):U / V≤top / v1:=by
 rw[Nat.le_div_iff_mul_le hv1];rcases amy V with h0 | h0
 ·rw[h0];simp
 have h1:U / V*V≤U:=an7 U V;have h2:U / V*(v1*B*K)≤U / V*V:=ann _ (by rw[hV,alV];omega);have h3:U<(top+1)*(B*K):=by
  have:(top*B+u2+1)*K≤((top+1)*B)*K:=amh K (by rw[alV];omega);rw[hU];have e:(top*B+u2+1)*K=(top*B+u2)*K+K:=by grind
  have e2:(top+1)*B*K=(top+1)*(B*K):=by grind
  omega
 have h4:U / V*v1*(B*K)<(top+1)*(B*K):=by
  have:U / V*v1*(B*K)=U / V*(v1*B*K):=by grind
  omega
 have:=an8 h4;omega
theorem Ox{B K v1 v2 V0 u0 u1 u2 U0 U V:Nat}(hV:V=(v1*B+v2)*K+V0)(hU:U=((u0*B+u1)*B+u2)*K+U0)(hV0:V0<K)(hv2:v2<B)(h:U<V*B):u0≤v1:=by
 have h1:V<(v1+1)*(B*K):=by
  have:(v1*B+v2+1)*K≤((v1+1)*B)*K:=amh K (by rw[alV];omega);have e:(v1*B+v2+1)*K=(v1*B+v2)*K+K:=by grind
  have e2:(v1+1)*B*K=(v1+1)*(B*K):=by grind
  omega
 have h2:u0*(B*K)*B≤U:=by
  have:U=u0*(B*K)*B+((u1*B+u2)*K+U0):=by rw[hU];grind
  omega
 have h3:V*B≤(v1+1)*(B*K)*B:=amh B (an9 h1);have h4:u0*(B*K*B)<(v1+1)*(B*K*B):=by
  have e1:u0*(B*K)*B=u0*(B*K*B):=by grind
  have e2:(v1+1)*(B*K)*B=(v1+1)*(B*K*B):=by grind
  omega
 have:=an8 h4;omega
theorem Je{B n:Nat}(hB:2≤B)(hn:n≠0):dg (bB B n) ((bB B n).length - 1)≠0:=by
 have h:=yn hB n;rcases po (bB B n)with h0 | ⟨zs,z,h0⟩
 ·exact absurd ((bL hB).1 h0) hn
 ·rw[h0]at h ⊢;have e:dg (zs++[z]) ((zs++[z]).length - 1)=z:=by unfold dg;simp
  rw[e];rintro rfl;rw[mD]at h;have:=rC zs;rw[h]at this;simp at this;omega
theorem Ow{B n t:Nat}{b:List Nat}(hb:∀d∈b,d<B)(hl:b.length=n+1)(hB:B=2^t*(B / 2^t))(ht:2^t*dg b n<B):val B b*2^t<B^(n+1):=by
 have e:b=b.take (n+1):=(anE (by omega)).symm;have h1:=jJ hb (show n≤b.length by omega);have h2:val B b=val B (b.take n)+B^n*dg b n:=by conv=>lhs;rw[e,dp]
 have hp:0<2^t:=anL t;have h3:(dg b n+1)*2^t≤B:=by
  rw[hB]at ht ⊢;have:=an6 ht;rw[anl];exact ann _ this
 have h4:val B b<B^n*(dg b n+1):=by rw[h2,ank];omega
 have h5:val B b*2^t<B^n*(dg b n+1)*2^t:=an5 h4 hp;have h6:B^n*(dg b n+1)*2^t≤B^n*B:=by rw[anm];exact ann _ h3
 rw[anj];omega
theorem Pv{B n:Nat}{l:List Nat}(hl:l.length=n+1):dg l n*B^n≤val B l:=by
 have e:l=l.take (n+1):=(anE (by omega)).symm;have h2:val B l=val B (l.take n)+B^n*dg l n:=by conv=>lhs;rw[e,dp]
 rw[h2,anl];omega
theorem PH{B n x:Nat}{l:List Nat}(hB:0<B)(hl:l.length=n+1)(hd:∀d∈l,d<B)(h:x*B^n≤val B l):x≤dg l n:=by
 have e:l=l.take (n+1):=(anE (by omega)).symm;have h2:val B l=val B (l.take n)+B^n*dg l n:=by conv=>lhs;rw[e,dp]
 have h1:=jJ hd (show n≤l.length by omega);have h3:x*B^n<(dg l n+1)*B^n:=by
  have:(dg l n+1)*B^n=B^n*dg l n+B^n:=by rw[alV,anl];omega
  omega
 have:=an8 h3;omega
theorem CL{B j n:Nat}{us vs:List Nat}(hB:2≤B)(hu:∀d∈us,d<B)(hv:∀d∈vs,d<B)(hl:j+n+1≤us.length)(hvl:vs.length=n)(hn:2≤n)(h:val B us<val B vs*B^(j+1)) :
  ∃S,S=(us.drop j).take (n+1)∧S.length=n+1∧(∀d∈S,d<B)∧val B us=val B (us.take j)+B^j*val B S∧val B S<val B vs*B ∧
   val B S=((dg us (j+n)*B+dg us (j+n - 1))*B+dg us (j+n - 2))*B^(n - 2)+val B (S.take (n - 2))∧val B (S.take (n - 2))<B^(n - 2) ∧
   val B vs=(dg vs (n - 1)*B+dg vs (n - 2))*B^(n - 2)+val B (vs.take (n - 2))∧val B (vs.take (n - 2))<B^(n - 2)∧val B (us.drop (j+n+1))=0:=by
 have hV:val B vs<B^n:=by have:=kc vs hv;rwa [hvl]at this
 obtain⟨h1,h2,h3,h4⟩:=Jh hB hu hl hV h;obtain⟨k,rfl⟩:∃k,n=k+2:=⟨n - 2,by omega⟩;refine⟨_,rfl,h3,q9 (Aa hu),h1,h2,?_,?_,?_,?_,h4⟩
 ·have:=IW (B:=B) (n:=k) h3;rw[yz (by omega),yz (by omega),yz (by omega),wF,wF,wF]at this;exact this
 ·exact jJ (q9 (Aa hu)) (by rw[h3];omega)
 ·exact It hvl
 ·exact jJ hv (by omega)
theorem LI{B n:Nat}{us:List Nat}(h:val B us<B^n)(hl:n≤us.length):val B (us.take n)=val B us:=by
 have e:val B us=val B (us.take n)+B^n*val B (us.drop n):=by
  conv=>lhs;rw[←an2 n us]
  rw[cP,anG,anI hl]
 rcases amy (val B (us.drop n))with h0 | h0
 ·rw[e,h0];simp
 ·have:=ann (B^n) (show 1≤_ from h0);omega
theorem Ht{m n P U Q:Nat}(hn:0<n)(hP:0<P)(h:m*P=U+n*P*Q)(hU:U<n*P):Q=m / n∧U / P=m % n:=by
 have e:U=P*(m - n*Q):=by
  have:n*P*Q=P*(n*Q):=by grind
  rw[Nat.mul_sub,anl P m];omega
 have h1:U / P=m - n*Q:=by rw[e];exact Nat.mul_div_cancel_left _ hP
 have h2:m - n*Q<n:=by
  rw[e,anl n P]at hU;exact an6 hU
 have h3:n*Q≤m:=by
  have:n*Q*P≤m*P:=by rw[h,aoa];omega
  exact Nat.le_of_mul_le_mul_right this hP
 obtain⟨r,rfl⟩:∃r,m=n*Q+r:=⟨m - n*Q,by omega⟩;rw[Nat.add_sub_cancel_left]at h1 h2;rw[h1,Nat.mul_add_div hn,Nat.mul_add_mod,anP h2,anR h2];simp
def A3(q g:Nat):Prop:=g=q∨g=q+1
theorem take_zero{U o g V:Nat}(hV:0<V)(h:A3 (U / V) g)(e:U=o+g*V):g=U / V∧o=U % V:=by
 have h1:=aob U V;have h2:=amt U hV;rcases h with h | h
 ·refine⟨h,?_⟩;rw[anl,←h]at h1;omega
 ·exfalso;rw[h,alV,anl (U / V)]at e;omega
theorem take_one{U P o o' c g V:Nat}(hV:0<V)(hVP:V≤P)(h:A3 (U / V) g)(e:U+P=o+g*V)(ho:o<P)(e':o+V=o'+P*c)(ho':o'<P):g=U / V+1∧o'=U % V:=by
 have h1:=aob U V;have h2:=amt U hV;rcases h with h | h
 ·exfalso;rw[h,anl]at e;omega
 ·refine⟨h,?_⟩;rw[h,alV,anl (U / V)]at e;rcases Nat.lt_trichotomy c 1 with hc | hc | hc
  ·obtain rfl:c=0:=by omega
   simp at e';omega
  ·subst hc;omega
  ·have:=ann P (show 2≤c from hc);omega
theorem FB{B P m V L U q rest Q:Nat}(h:m=(L+P*U)+V*(P*B*Q))(hq:U=V*q+rest):m=(L+P*rest)+V*(P*(q+B*Q)):=by
 subst hq;grind
end Go.Pl
namespace Go.Proofs
open Go.Sv Go Go.Pl
theorem D8(m n:Nat)(hn:n≠0)(hwm:wid 4294967296 m≤2000000000000)(hwn:wid 4294967296 n≤2000000000000) :
  aI Tryz.prog 165 [.ro ((bB 4294967296 m).map u32),.ro ((bB 4294967296 n).map u32)] (.bG [.ro ((bB 4294967296 (m / n)).map u32),.ro ((bB 4294967296 (m % n)).map u32)]):=by
 refine aj Tryz.func165 rfl (by simp) (fun C hC=>?_);have B2:2≤4294967296:=by omega
 have hc:=pH m n (by omega) (by omega);have vm:=bX B2 m;have vn:=bX B2 n;have lm:=cQ B2 m;have ln:=cQ B2 n;have hne:bB 4294967296 n≠[]:=fun h=>hn ((bL B2).1 h);simp only[wid]at hwm hwn;simp;refine aZ hc (by simp) ?_;rcases amz m n with aF | hge
 ·have e:dZ m n = -1:=by simp[dZ,aF]
  rw[e];simp;rw[anP aF,anR aF];simp[bf,anE];omega
 ·have e:¬dZ m n<0:=by simp[dZ];omega
  simp[e];have hlen:(bB 4294967296 n).length≤(bB 4294967296 m).length:=bY B2 hge;refine⟨fun h1=>?_,fun h1=>?_⟩
  ·obtain⟨d,hd⟩:=List.length_eq_one_iff.1 (by omega:(bB 4294967296 n).length=1);rw[hd]at vn ln;simp[val]at vn ln;subst vn;rw[hd];simp;refine ae.alS (.qs [0,2,3]<|.q 4 [1000000]<|.l 1 [1000000]<|.l 5 [0,1000000]<|.qs [6,7,8,9,10]<|.nil) ?_;simp;refine⟨by omega,?_⟩;refine vA (bB 4294967296 m) [] d (by simp) (by omega) lm (by omega) (by simp[ao];rintro i e h;cases i<;>simp_all [ao]) (fun q h2 h3 h4=>?_);rw[vm]at h4 ⊢;simp;refine aZ (mh [m % d] (by simp)) (by simp) ?_;simp;have e1:bB 4294967296 (m / d)=cu q:=by rw[←h4,fT B2 q h2]
   have e2:bB 4294967296 (m % d)=cu [m % d]:=by
    have:=fT B2 [m % d] (by simp;have:=amt m (show 0<d by omega);omega);simpa[val]using this
   rw[e1,e2];simp[rC,←an3,uZ]
  ·have hT0:0<dg (bB 4294967296 n) ((bB 4294967296 n).length - 1):=Nat.pos_of_ne_zero (Je B2 hn);generalize bB 4294967296 m=a at *;generalize bB 4294967296 n=b at *;have hb1:b.length≠1:=by omega
   have hb0:b.length≠0:=fun h=>hne (List.length_eq_zero_iff.1 h);have bT:=dV ln (by omega) (b.length - 1);refine ae.loop (ι:=Nat) (fun up=>⟨180,[(0,.ro (a.map u32)),(1,.ro (b.map u32)),(8,.val (.int .u64 up))],[]⟩) (fun up=>up<32∧2^up*dg b (b.length - 1)<4294967296) (fun up=>32 - up) 0 ?_ ?_ ?_
   ·simp;omega
   ·simp[ar,hC]
   ·rintro up ⟨hu1,hu2⟩;obtain⟨T,hT⟩:∃T,T=2^up*dg b (b.length - 1):=⟨_,rfl⟩;have e1:(dg b (b.length - 1):Int)*2^up=T:=by rw[hT];push_cast;exact Int.mul_comm _ _
    have hmin:min up 32=up:=by omega
    rw[←hT]at hu2;have e3:(T:Int) % 4294967296=T:=by omega
    by_cases hh:T<2147483648
    ·have e2:(T:Int) / 2147483648=0:=by omega
     have h31:up+1<32:=by
      rcases amz (up+1) 32 with h | h
      ·exact h
      ·exfalso;obtain rfl:up=31:=by omega
       omega
     simp(disch:=omega)[aP,bs,gE,gx,LR,e1,e2,e3,hmin];refine⟨by omega,up+1,⟨h31,by rw[anj,aoa,←hT];omega⟩,by omega,by simp[ar,hC]⟩
    ·have e2:(T:Int) / 2147483648=1:=by omega
     simp(disch:=omega)[aP,bs,gE,gx,LR,e1,e2,e3,hmin];refine⟨by omega,?_⟩;have hBu:4294967296=2^up*(4294967296 / 2^up):=by
      rw[Nat.mul_div_cancel'];exact Nat.pow_dvd_pow 2 (show up≤32 by omega)
     have fa:val 4294967296 a*2^up<4294967296^(a.length+1):=by
      have h1:=kc a lm;have h2:2^up<4294967296:=Nat.pow_lt_pow_right (by omega) (show up<32 by omega);rw[anj];exact Nat.mul_lt_mul'' h1 h2
     have fb:val 4294967296 b*2^up<4294967296^b.length:=by
      have:=Ow (n:=b.length - 1) ln (by omega) hBu (by rw[←hT];omega)
      rwa [show b.length - 1+1=b.length by omega]at this
     refine yf a up (a.length+1) (by push_cast;rfl) lm hu1 (by omega) (by omega) fa (fun us gu1 gu2 gu3=>?_);simp;refine yf b up b.length rfl ln hu1 (by omega) (by omega) fb (fun vs gv1 gv2 gv3=>?_);obtain⟨c0,hc0⟩:∃c0,a.length+1=c0+b.length:=⟨a.length+1 - b.length,by omega⟩;have ec0:(a.length:Int)+1 - b.length=c0:=by omega
     simp(disch:=omega)[aP,ec0];refine⟨by omega,?_⟩;obtain⟨V,hV⟩:∃V,V=val 4294967296 vs:=⟨_,rfl⟩;have hV1:V<4294967296^b.length:=by rw[hV,gv3];exact fb
     have hV0:0<V:=by rw[hV,gv3,vn];exact Nat.mul_pos (by omega) (anL up)
     have hTV:T*4294967296^(b.length - 1)≤V:=by
      have:=Pv (B:=4294967296) (n:=b.length - 1) (l:=b) (by omega);rw[hV,gv3,hT,anm,anl];exact amh _ this
     have hvt:2147483648≤dg vs (b.length - 1):=by
      have:=PH (by omega) (show vs.length=b.length - 1+1 by omega) gv2 (by rw[←hV];exact hTV);omega
     refine ae.loop (ι:=List Nat × List Nat × Nat) (fun⟨us,qs,c⟩=>⟨180,[(8,.val (.int .u64 up)),(9,.view 0 0 (a.length+1)),(10,.view 1 0 b.length),(11,.val (.int .i64 b.length)),(12,.view 2 0 c0),(13,.val (.int .i64 ((c:Int) - 1)))],
       [some ⟨1,us.map u32,false⟩,some ⟨1,vs.map u32,false⟩,some ⟨1,qs.map u32,false⟩]⟩)
      (fun⟨us,qs,c⟩=>us.length=a.length+1∧qs.length=c0∧c≤c0∧(∀d∈us,d<4294967296)∧(∀d∈qs,d<4294967296)∧val 4294967296 us<V*4294967296^c∧m*2^up=val 4294967296 us+V*(4294967296^c*val 4294967296 (qs.drop c)))
      (fun⟨us,qs,c⟩=>c) (us,List.replicate c0 0,c0) ?_ ?_ ?_
     ·refine⟨gu1,by simp,by omega,gu2,by simp,?_,?_⟩
      ·rw[gu3];have h1:=kc a lm;have h2:2^up≤2147483648:=ano (by omega) (show up≤31 by omega);have h3:val 4294967296 a*2^up≤val 4294967296 a*2147483648:=ann _ h2;have h4:val 4294967296 a*2147483648<4294967296^a.length*2147483648:=an5 h1 (by omega);have h5:4294967296^a.length=4294967296^(b.length - 1)*4294967296^c0:=by rw[←Nat.pow_add];congr 1;omega
       have h6:2147483648*4294967296^(b.length - 1)≤V:=amQ (amh _ (by omega)) hTV;have h7:=amh (4294967296^c0) h6;have h8:4294967296^a.length*2147483648=2147483648*4294967296^(b.length - 1)*4294967296^c0:=by rw[h5];grind
       omega
      ·rw[gu3,vm];simp[val]
     ·simp[ar,hC]
     ·rintro⟨us,qs,c⟩ ⟨g1,g2,g3,g4,g5,g6,g7⟩;cases c with
      | zero =>
       have hUV0:val 4294967296 us<V:=by simpa using g6
       have hUn:val 4294967296 (us.take b.length)=val 4294967296 us:=LI (aoc hUV0 hV1) (by omega);have hend:=Ht (m:=m) (n:=n) (P:=2^up) (U:=val 4294967296 us) (Q:=val 4294967296 qs) (by omega) (anL up) (by rw[g7,hV,gv3,vn];simp) (by rw[←vn,←gv3,←hV];exact hUV0);simp;refine ae.alS (.qs [0,2,3,4,5]<|.l 1 []<|.l 6 []<|.qs [7,8]<|.nil) ?_;simp;refine⟨by omega,?_⟩;refine aZ (mh qs (by omega)) (by simp[anE,g2]) ?_;simp;refine aZ (JD (us.take b.length) up (q9 g4) hu1 (by simp;omega)) (by simp[g1,an3];omega) ?_;rw[hUn,hend.2,←hend.1,fT B2 qs g5];simp
      | succ j =>
       simp(disch:=omega)[aP,bs];refine ae.alS (.qs [0,1,2,3,4,5,6,7,8,9,10,11,12,13,14,15,16,17]<|.nil) ?_;have hbu0:=dV g4 (by omega) (j+b.length);have hbu1:=dV g4 (by omega) (j+b.length - 1);simp(disch:=omega)[aP,bs,gx,kP];refine⟨⟨by omega,by omega⟩,by omega,⟨by omega,by omega⟩,by omega,?_⟩;refine ae.alS (.qs [0,1,2,3,4,5,6,7,8,9,10,11,12,13,14,15,16,17]<|.nil) ?_;simp(disch:=omega)[aP,bs,gx,kP];have bv1:=dV gv2 (by omega) (b.length - 1);have bv2:=dV gv2 (by omega) (b.length - 2);have bu2:=dV g4 (by omega) (j+b.length - 2);have nv1:¬(dg vs (b.length - 1):Int)=0:=by omega
       simp(disch:=omega)[aP,bs,gx,kP,nv1,Int.tdiv_eq_ediv_of_nonneg,aog];repeat refine And.intro (by omega) ?_
       obtain⟨S,hS,hSl,hSd,hval,hUV,hSt,hS0,hVt,hV00,hRz⟩:=CL B2 g4 gv2 (show j+b.length+1≤us.length by omega) gv1 (by omega) (by rw[←hV];exact g6);rw[←hV]at hUV hVt;obtain⟨U,hU⟩:∃U,U=val 4294967296 S:=⟨_,rfl⟩;rw[←hU]at hval hUV hSt;obtain⟨top,htop⟩:∃top,top=dg us (j+b.length)*4294967296+dg us (j+b.length - 1):=⟨_,rfl⟩;obtain⟨v1,hv1⟩:∃v1,v1=dg vs (b.length - 1):=⟨_,rfl⟩;obtain⟨v2,hv2⟩:∃v2,v2=dg vs (b.length - 2):=⟨_,rfl⟩;obtain⟨u2,hu2'⟩:∃u2,u2=dg us (j+b.length - 2):=⟨_,rfl⟩;have hul:dg us (j+b.length)≤dg vs (b.length - 1):=Ox hVt hSt hV00 bv2 hUV;have et:(dg us (j+b.length):Int)*4294967296+dg us (j+b.length - 1)=top:=by omega
       rw[←htop,←hu2']at hSt;rw[←hv1,←hv2]at hVt;have hv10:0<v1:=by omega
       have htop2:top<(v1+1)*4294967296:=by rw[alV];omega
       have q0:U / V≤top / v1:=BH hVt hSt hS0 (by omega) hv10;have qB:U / V<4294967296:=by rw[anN hV0,anl];exact hUV
       have g0:top / v1≤4294967297:=by
        have:top / v1<4294967298:=by
         rw[anN hv10];omega
        omega
       have ed:(top:Int) / v1=((top / v1:Nat):Int):=by simp
       have ew:IntKind.u64.wrap ((top:Int) / v1)=(top:Int) / v1:=by
        rw[ed];generalize top / v1=z at g0;rw[gx];omega
       have near:∀g r,g*v1+r=top→U / V≤g→g<4294967296→g*v2≤r*4294967296+u2→A3 (U / V) g:=fun g r h1 h2 h3 h4 =>
        Ds rfl hV0 h2 (Fh hVt hSt hV00 hv10 (by omega) h1 h4 (by omega))
       refine ae.cut (fun e st'=>e=.exit 4∧∃g:Nat,A3 (U / V) g∧g<4294967296∧ar C st' ⟨180,[(8,.val (.int .u64 up)),(9,.view 0 0 (a.length+1)),(10,.view 1 0 b.length),(11,.val (.int .i64 b.length)),(12,.view 2 0 c0),(13,.val (.int .i64 j)),(15,.val (.int .u64 g))],
        [some ⟨1,us.map u32,false⟩,some ⟨1,vs.map u32,false⟩,some ⟨1,qs.map u32,false⟩]⟩) ?_ ?_
       ·refine ae.loop (ι:=Nat × Nat) (fun⟨g,r⟩=>⟨180,[(8,.val (.int .u64 up)),(9,.view 0 0 (a.length+1)),(10,.view 1 0 b.length),(11,.val (.int .i64 b.length)),(12,.view 2 0 c0),(13,.val (.int .i64 j)),(15,.val (.int .u64 g)),(16,.val (.int .u64 r))],
          [some ⟨1,us.map u32,false⟩,some ⟨1,vs.map u32,false⟩,some ⟨1,qs.map u32,false⟩]⟩)
         (fun⟨g,r⟩=>g*v1+r=top∧U / V≤g∧g≤4294967297∧r<4294967296) (fun⟨g,r⟩=>g) (top / v1,top % v1) ?_ ?_ ?_
        ·refine⟨?_,q0,g0,?_⟩
         ·have:=aob top v1;rw[anl]at this;exact this
         ·have:=amt top hv10;omega
        ·simp[ar,hC,et,ew,←hv1]
        ·rintro⟨g,r⟩ ⟨k1,k2,k3,k4⟩;have body:∀g1,g=g1+1→U / V<g→(g1*v1+(r+v1)=top∧U / V≤g1∧g1≤4294967297)∧(4294967296≤r+v1→A3 (U / V) g1∧g1<4294967296):=by
          intro g1 hg1 aF;subst hg1;have e:g1*v1+(r+v1)=top:=by rw[←k1,alV];omega
          refine⟨⟨e,by omega,by omega⟩,fun hr=>?_⟩;have hg2:g1<4294967296:=by
           have:g1*v1<4294967296*v1:=by rw[alV]at htop2;omega
           exact an8 this
          refine⟨near g1 (r+v1) e (by omega) hg2 ?_,hg2⟩;have h1:g1*v2≤4294967296*4294967296:=anT (by omega) (by omega);have h2:=amh 4294967296 hr;omega
         simp(disch:=omega);refine ae.alS (.qs [0,1,2,3,4,5,6,7,8,9,10,11,12,13,14,15,16,17,18,19,20,21,22,23,24]<|.nil) ?_;by_cases hA:4294967296≤g
         ·obtain⟨g1,rfl⟩:∃g1,g=g1+1:=⟨g - 1,by omega⟩;have hA':0<((g1:Int)+1) / 4294967296:=by omega
          obtain⟨⟨b1,b2,b3⟩,b4⟩:=body g1 rfl (by omega);by_cases hr:4294967296≤r+v1
          ·have hr':0<((r:Int)+v1) / 4294967296:=by omega
           simp(disch:=omega)[aP,gx,bs,hA',hr',←hv1];refine⟨by omega,by omega,g1,(b4 hr).1,(b4 hr).2,by simp[ar,hC]⟩
          ·have hr':¬0<((r:Int)+v1) / 4294967296:=by omega
           simp(disch:=omega)[aP,gx,bs,hA',hr',←hv1];refine⟨by omega,by omega,g1,r+v1,⟨b1,b2,b3,by omega⟩,by omega,by simp[ar,hC]⟩
         ·have hA':¬0<(g:Int) / 4294967296:=by omega
          have hgv:g*v2≤4294967295*4294967295:=anT (by omega) (by omega);have hgv':(g:Int)*v2≤18446744065119617025:=by rw[←anW];omega
          have hgv0:(0:Int)≤(g:Int)*v2:=by rw[←anW];omega
          by_cases hB:r*4294967296+u2<g*v2
          ·have hBI:(r:Int)*4294967296+u2<(g:Int)*v2:=by rw[←anW];omega
           have hql:U / V<g:=E9 hVt hSt hS0 (an7 U V) k1 hB;have hg0:0<g:=Nat.lt_of_le_of_lt (Nat.zero_le _) hql;obtain⟨g1,rfl⟩:∃g1,g=g1+1:=⟨g - 1,by omega⟩;obtain⟨⟨b1,b2,b3⟩,b4⟩:=body g1 rfl hql;have hA2:¬0<((g1:Int)+1) / 4294967296:=by omega
           have hcast:((g1+1:Nat):Int)*v2=((g1:Int)+1)*v2:=by push_cast;rfl
           rw[hcast]at hgv' hgv0;have hB':=hBI;rw[hcast]at hB';by_cases hr:4294967296≤r+v1
           ·have hr':0<((r:Int)+v1) / 4294967296:=by omega
            simp(disch:=omega)[aP,gx,bs,kP,hA2,hB',hr',←hv1,←hv2,←hu2'];refine⟨by omega,by omega,by omega,by omega,by omega,by omega,g1,(b4 hr).1,(b4 hr).2,by simp[ar,hC]⟩
           ·have hr':¬0<((r:Int)+v1) / 4294967296:=by omega
            simp(disch:=omega)[aP,gx,bs,kP,hA2,hB',hr',←hv1,←hv2,←hu2'];refine⟨by omega,by omega,by omega,by omega,by omega,by omega,g1,r+v1,⟨b1,b2,b3,by omega⟩,by omega,by simp[ar,hC]⟩
          ·have hB':¬(r:Int)*4294967296+u2<(g:Int)*v2:=by rw[←anW];omega
           simp(disch:=omega)[aP,gx,bs,kP,hA',hB',←hv1,←hv2,←hu2'];refine⟨by omega,by omega,by omega,by omega,g,near g r k1 k2 (by omega) (by omega),by omega,by simp[ar,hC]⟩
       ·rintro e st' ⟨rfl,g,hg,hgB,hle⟩;refine⟨_,hle,?_⟩;simp(disch:=omega)[aP];refine⟨by omega,?_⟩;have husS:us=us.take j++(S++us.drop (j+b.length+1)):=by
         have:us.drop (j+b.length+1)=(us.drop j).drop (b.length+1):=by rw[an1,amj]
         rw[hS,this,an2,an2]
        have hVP:V≤4294967296^S.length:=by
         rw[hSl,anj];omega
        have fin:∀o',o'.length=S.length→(∀d∈o',d<4294967296)→val 4294967296 o'=U % V →
          (us.take j++(o'++us.drop (j+b.length+1))).length=a.length+1∧(qs.set j (U / V)).length=c0∧j≤c0∧(∀d∈us.take j++(o'++us.drop (j+b.length+1)),d<4294967296)∧(∀d∈qs.set j (U / V),d<4294967296) ∧
          val 4294967296 (us.take j++(o'++us.drop (j+b.length+1)))<V*4294967296^j∧m*2^up=val 4294967296 (us.take j++(o'++us.drop (j+b.length+1)))+V*(4294967296^j*val 4294967296 ((qs.set j (U / V)).drop j)):=by
         intro o' h1 h2 h3;have hv:val 4294967296 (us.take j++(o'++us.drop (j+b.length+1)))=val 4294967296 (us.take j)+4294967296^j*(U % V):=by
          rw[cP,cP,hRz,h3,anG,anI (by omega)];simp
         have hL:=jJ g4 (show j≤us.length by omega);have hr:=amt U hV0;refine⟨by simp;omega,by simpa using g2,by omega,?_,jO _ g5 qB,?_,?_⟩
         ·intro d hd;rcases amO.1 hd with hd | hd
          ·exact q9 g4 d hd
          ·rcases amO.1 hd with hd | hd
           ·exact h2 d hd
           ·exact Aa g4 d hd
         ·rw[hv];have:=ann (4294967296^j) (show U % V+1≤V from hr);rw[ank,Nat.mul_one,anl (4294967296^j) V]at this;omega
         ·rw[hv,di _ (qs.set j (U / V)),mo _ (by omega),if_pos rfl,eY];rw[hval,anj]at g7;exact FB g7 (aob U V).symm
        refine xi ((us.take j).map u32) ((us.drop (j+b.length+1)).map u32) S vs g ?_ (by simp[ao]) (by omega) (by simp;omega) (by omega) gv1.symm hSd gv2 hgB (by omega) (by omega) (fun o bw ho1 ho2 ho3 ho4=>?_)
        ·simp only[ao];rw[←anb,←anb,←husS]
        ·rw[←hU,←hV]at ho4;by_cases hbw:0<bw
         ·obtain rfl:bw=1:=by omega
          simp(disch:=omega)[aP,gx];refine⟨by omega,?_⟩;refine xe ((us.take j).map u32) ((us.drop (j+b.length+1)).map u32) o vs ?_ (by simp[ao]) (by omega) (by simp;omega) (by omega) gv1.symm ho2 gv2 (by omega) (by omega) (fun o' c1 hp1 hp2 hp3=>?_)
          ·simp[ao]
          ·rw[←hV,ho1]at hp3;obtain⟨f1,f2⟩:=take_one hV0 hVP hg (by simpa using ho4) (by rw[←ho1];exact kc o ho2) hp3 (by rw[←ho1,←hp1];exact kc o' hp2);obtain⟨G1,G2,G3,G4,G5,G6,G7⟩:=fin o' (by omega) hp2 f2;generalize U / V=q at *;subst f1;have eq1:(q:Int) % 4294967296=q:=by omega
           simp(disch:=omega)[aP,gx,gE,bs,eq1];refine⟨by omega,by omega,_,qs.set j q,j,⟨G1,G2,G3,G4,G5,G6,G7⟩,by omega,by simp[ar,hC,cj]⟩
         ·obtain rfl:bw=0:=by omega
          obtain⟨f1,f2⟩:=take_zero hV0 hg (by simpa using ho4);obtain⟨G1,G2,G3,G4,G5,G6,G7⟩:=fin o (by omega) ho2 f2;generalize U / V=q at *;subst f1;have eq1:(g:Int) % 4294967296=g:=by omega
          simp(disch:=omega)[aP,gx,gE,bs,eq1];refine⟨by omega,by omega,_,qs.set j g,j,⟨G1,G2,G3,G4,G5,G6,G7⟩,by omega,by simp[ar,hC,cj]⟩
end Go.Proofs
namespace Go.Proofs
open Go.Sv Go Go.Pl
theorem Gd{x y q r:Int}(hy:y≠0)(h:x=r+y*q)(h0:0≤r)(h1:r<y.natAbs):x / y=q∧x % y=r:=by
 subst h;rw[Int.add_mul_ediv_left _ _ hy,Int.add_mul_emod_self_left];rcases Int.lt_or_gt_of_ne hy with h | h
 ·have e1:r / y=0:=by
   rw[show y = -(-y) by omega,Int.ediv_neg,aoh h0 (by omega)];rfl
  have e2:r % y=r:=by
   rw[show y = -(-y) by omega,Int.emod_neg,aoi h0 (by omega)]
  rw[e1,e2];simp
 ·rw[aoh h0 (by omega),aoi h0 (by omega)];simp
theorem yv{x y:Int}(h:y.natAbs≤x.natAbs)(hx:fit x):fit y:=amQ (bY (by omega) h) hx
theorem sM{x:Int}(h:x.natAbs<4294967296^3):fit x:=amQ (gZ (by omega) h) (by omega)
theorem wQ(b:Bool)(n:Nat)(h:wid 4294967296 n≤1000000000000):aI Tryz.prog 129 [.val (.bool b),.ro ((bB 4294967296 n).map u32)] (cK (if b=true then -(n:Int) else(n:Int))):=by
 have:=jV b (bB 4294967296 n) (by simp only[wid]at h;omega) (cQ (by omega) n)
 rwa [bX (by omega)]at this
theorem sI(x y:Int)(hx:fit x)(hy:fit y) :
  aI Tryz.prog 159 [cK x,cK y] (.bG [cK (x / y),cK (if y=0 then 0 else x % y),.val (.bool (decide (y≠0)))]):=by
 refine aj Tryz.func159 rfl (by simp) (fun C hC=>?_);by_cases h0:y=0
 ·subst h0;simp[cK,bf]
 ·have hy0:y.natAbs≠0:=by omega
  have hne:¬(bB 4294967296 y.natAbs)=[]:=fun h=>hy0 ((bL (by omega)).1 h);have hq1:x.natAbs / y.natAbs≤x.natAbs:=Nat.div_le_self _ _;have hr1:x.natAbs % y.natAbs≤x.natAbs:=Nat.mod_le _ _;have hr2:=amt x.natAbs (show 0<y.natAbs by omega);have hdm:=aob x.natAbs y.natAbs;have hl:=D8 x.natAbs y.natAbs hy0 (amQ hx (by omega)) (amQ hy (by omega));generalize x.natAbs / y.natAbs=Q at *;generalize x.natAbs % y.natAbs=R at *;have hm1:=wQ (decide (x<0) != decide (y<0)) Q (amQ (bY (by omega) hq1) hx);have hm2:=wQ (decide (x<0)) R (amQ (bY (by omega) hr1) hx);obtain⟨q,hq⟩:∃q,q=(if(decide (x<0) != decide (y<0))=true then -(Q:Int) else(Q:Int)):=⟨_,rfl⟩;obtain⟨r,hr⟩:∃r,r=(if decide (x<0)=true then -(R:Int) else(R:Int)):=⟨_,rfl⟩;rw[←hq]at hm1;rw[←hr]at hm2;have hxq:x=r+y*q:=by
   have hdm':(y.natAbs:Int)*Q+R=x.natAbs:=by rw[←anW,←Int.natCast_add,hdm]
   by_cases h1:x<0<;>by_cases h2:y<0
   ·have e1:(x.natAbs:Int) = -x:=by omega
    have e2:(y.natAbs:Int) = -y:=by omega
    rw[e1,e2]at hdm';simp[h1,h2]at hq hr;subst hq hr;grind
   ·have e1:(x.natAbs:Int) = -x:=by omega
    have e2:(y.natAbs:Int)=y:=by omega
    rw[e1,e2]at hdm';simp[h1,h2]at hq hr;subst hq hr;grind
   ·have e1:(x.natAbs:Int)=x:=by omega
    have e2:(y.natAbs:Int) = -y:=by omega
    rw[e1,e2]at hdm';simp[h1,h2]at hq hr;subst hq hr;grind
   ·have e1:(x.natAbs:Int)=x:=by omega
    have e2:(y.natAbs:Int)=y:=by omega
    rw[e1,e2]at hdm';simp[h1,h2]at hq hr;subst hq hr;grind
  have hra:r.natAbs=R:=by rw[hr];split<;>omega
  have hqa:q.natAbs=Q:=by rw[hq];split<;>omega
  have fq:fit q:=yv (x:=x) (by omega) hx;have fr:fit r:=yv (x:=x) (by omega) hx;simp[cK,hne,h0];refine aZ hl (by simp) ?_;simp;refine ae.alS (.qs [0,1,2,3,4,5,7,8,9]<|.l 6 []<|.l 10 []<|.l 11 [2]<|.l 12 [3]<|.nil) ?_;simp;refine aZ hm1 (by simp[bne]) ?_;simp;refine aZ hm2 (by simp) ?_;by_cases hr0:r<0
  ·have ha:=pK r (y.natAbs:Int) fr (by simpa[fit]using hy);have hyn:¬(y.natAbs:Int)<0:=by omega
   simp[cK,hr0,bne];refine aZ ha (by simp[cK,hr0]) ?_;simp[cK];by_cases hy1:y<0
   ·obtain⟨u1,u2⟩:=Gd (x:=x) (y:=y) (q:=q+1) (r:=r+y.natAbs) h0 (by rw[hxq];grind) (by omega) (by omega);have hy2:¬(0:Int)≤y:=by omega
    simp[hy1,hy2];refine ae.alS (.qs [0]<|.l 1 []<|.l 2 []<|.l 3 [2]<|.nil) ?_;simp;refine aZ (lE 1 (by omega) (by omega)) (by simp) ?_;simp[cK];refine aZ (pK q 1 fq (sM (by simp))) (by simp[cK]) ?_;simp[cK];refine ae.alS (.qs [0]<|.q 1 [2]<|.l 2 [2]<|.l 3 [3]<|.qs [4]<|.nil) ?_;simp[cK,u1,u2,h0];try omega
   ·obtain⟨u1,u2⟩:=Gd (x:=x) (y:=y) (q:=q - 1) (r:=r+y.natAbs) h0 (by rw[hxq];grind) (by omega) (by omega);have hy2:0≤y:=by omega
    simp[hy1,hy2];refine ae.alS (.qs [0]<|.l 1 []<|.l 2 []<|.l 3 [2]<|.nil) ?_;simp;refine aZ (lE 1 (by omega) (by omega)) (by simp) ?_;simp[cK];refine aZ (Jt q 1 fq (sM (by simp))) (by simp[cK]) ?_;simp[cK];refine ae.alS (.qs [0]<|.q 1 [2]<|.l 2 [2]<|.l 3 [3]<|.qs [4]<|.nil) ?_;simp[cK,u1,u2,h0];try omega
  ·obtain⟨u1,u2⟩:=Gd (x:=x) (y:=y) (q:=q) (r:=r) h0 hxq (by omega) (by omega);simp[cK,hr0,bne];refine ae.alS (.qs [0]<|.q 1 [2]<|.l 2 [2]<|.l 3 [3]<|.qs [4]<|.nil) ?_;simp[cK,u1,u2,h0];try omega
end Go.Proofs
namespace Go.Proofs
open Go.Sv Go Go.Pl
theorem wu{n:Nat}(h:wid 4294967296 n≤2):n<18446744073709551616:=by
 have:=m7 (B:=4294967296) (by omega) n;have:=Nat.lt_of_lt_of_le this (ano (by omega) h);simpa using this
theorem GZ(m n:Nat)(hm:wid 4294967296 m≤2)(hn:wid 4294967296 n≤2) :
  aI Tryz.prog 164 [.ro ((bB 4294967296 m).map u32),.ro ((bB 4294967296 n).map u32)] (cK (aod m n:Nat)):=by
 refine aj Tryz.func164 rfl (by simp) (fun C hC=>?_);have wm:=DC (bB 4294967296 m) (cQ (by omega) m) hm;have wn:=DC (bB 4294967296 n) (cQ (by omega) n) hn;rw[bX (by omega)]at wm wn;have hm':=wu hm;have hn':=wu hn;simp;refine aZ wm (by simp) ?_;simp;refine aZ wn (by simp) ?_;simp;refine ae.loop (ι:=Nat × Nat) (fun⟨x,y⟩=>⟨24,[(4,.ptr 0 0 0),(5,.val (.int .u64 x)),(6,.val (.int .u64 y))],[some ⟨2,[.agg [.val (.bool false),.val (.slice none 0 0)]],false⟩]⟩)
  (fun⟨x,y⟩=>x<18446744073709551616∧y<18446744073709551616∧aod x y=aod m n) (fun⟨x,y⟩=>y) (m,n) ?_ ?_ ?_
 ·exact⟨hm',hn',rfl⟩
 ·simp[ar,hC]
 ·rintro⟨x,y⟩ ⟨h1,h2,h3⟩;by_cases hy:0<y
  ·simp[hy];refine ae.alS (.qs [0,1,2,3,4,5]<|.nil) ?_;simp(disch:=omega)[aog];refine⟨by omega,y,x % y,⟨h2,aoc (amt _ hy) h2,by rw[←h3,aoe x y,aof y x,aoe]⟩,amt _ hy,by simp[ar,hC]⟩
  ·obtain rfl:y=0:=by omega
   simp at h3;subst h3;have hmd:=jV false [aod m n % 4294967296,aod m n / 4294967296] (by simp) (by simp;omega);simp[val]at hmd;generalize aod m n=g at *;rw[show((g:Int) % 4294967296+4294967296*((g:Int) / 4294967296))=g by omega]at hmd;have e:(g:Int) / 4294967296 % 4294967296=(g:Int) / 4294967296:=by omega
   simp(disch:=omega)[gE,e];refine aZ hmd (by simp) ?_;simp
theorem Jw(m n:Nat):aod n (m % n)=aod m n:=by rw[aoe m n,aof n m,aoe]
theorem N9(x y:Int)(hx:fit x)(hy:fit y):aI Tryz.prog 158 [cK x,cK y] (cK (aoj x y:Nat)):=by
 refine aj Tryz.func158 rfl (by simp) (fun C hC=>?_);simp[cK];refine ae.alS (.qs [0,1,2,3,4,5]<|.nil) ?_;simp;refine ae.loop (ι:=Nat × Nat) (fun⟨m,n⟩=>⟨39,[(4,.ptr 2 0 0),(5,.ro ((bB 4294967296 m).map u32)),(6,.ro ((bB 4294967296 n).map u32))],
   [some ⟨2,[.agg [.val (.bool (decide (x<0))),.ro ((bB 4294967296 x.natAbs).map u32)]],false⟩,some ⟨2,[.agg [.val (.bool (decide (y<0))),.ro ((bB 4294967296 y.natAbs).map u32)]],false⟩,some ⟨2,[.agg [.val (.bool false),.val (.slice none 0 0)]],false⟩]⟩)
  (fun⟨m,n⟩=>wid 4294967296 m≤1000000000000∧wid 4294967296 n≤1000000000000∧aod m n=aoj x y) (fun⟨m,n⟩=>n) (x.natAbs,y.natAbs) ?_ ?_ ?_
 ·exact⟨hx,hy,rfl⟩
 ·simp[ar,hC]
 ·rintro⟨m,n⟩ ⟨h1,h2,h3⟩;by_cases hn:n=0
  ·subst hn;simp at h3;subst h3;have hmd:=wQ false _ h1;simp only[wid]at h1;simp[bf];refine⟨by omega,?_⟩;refine aZ hmd (by simp[anE]) ?_;simp[cK]
  ·have hl:0<(bB 4294967296 n).length:=List.length_pos_iff.2 fun h=>hn ((bL (by omega)).1 h);have hlong:=D8 m n hn (by omega) (by omega);have hr:=amt m (show 0<n by omega);have ht:=mh (bB 4294967296 (m % n)) (by
    have:=bY (B:=4294967296) (by omega) (an9 hr);simp only[wid]at this h2;omega)
   rw[yn (by omega)]at ht;have go:∀st',ar C st' ⟨39,[(4,.ptr 2 0 0),(5,.ro ((bB 4294967296 n).map u32)),(6,.ro ((bB 4294967296 (m % n)).map u32))],
     [some ⟨2,[.agg [.val (.bool (decide (x<0))),.ro ((bB 4294967296 x.natAbs).map u32)]],false⟩,some ⟨2,[.agg [.val (.bool (decide (y<0))),.ro ((bB 4294967296 y.natAbs).map u32)]],false⟩,some ⟨2,[.agg [.val (.bool false),.val (.slice none 0 0)]],false⟩]⟩→
     ∃m' n',(wid 4294967296 m'≤1000000000000∧wid 4294967296 n'≤1000000000000∧aod m' n'=aoj x y)∧n'<n∧ar C st' ⟨39,[(4,.ptr 2 0 0),(5,.ro ((bB 4294967296 m').map u32)),(6,.ro ((bB 4294967296 n').map u32))],
     [some ⟨2,[.agg [.val (.bool (decide (x<0))),.ro ((bB 4294967296 x.natAbs).map u32)]],false⟩,some ⟨2,[.agg [.val (.bool (decide (y<0))),.ro ((bB 4294967296 y.natAbs).map u32)]],false⟩,some ⟨2,[.agg [.val (.bool false),.val (.slice none 0 0)]],false⟩]⟩ :=
    fun st' hle=>⟨n,m % n,⟨h2,amQ (bY (by omega) (an9 hr)) h2,by rw[Jw];exact h3⟩,hr,hle⟩
   by_cases hm2:(bB 4294967296 m).length≤2
   ·by_cases hn2:(bB 4294967296 n).length≤2
    ·have hs:=GZ m n hm2 hn2;have hm2':((bB 4294967296 m).length:Int)≤2:=by omega
     have hn2':((bB 4294967296 n).length:Int)≤2:=by omega
     simp[hl,hm2',hn2'];refine aZ hs (by simp) ?_;simp[cK,h3]
    ·have hm2':((bB 4294967296 m).length:Int)≤2:=by omega
     have hn2':¬((bB 4294967296 n).length:Int)≤2:=by omega
     simp[hl,hm2',hn2'];refine aZ hlong (by simp) ?_;simp;refine aZ ht (by simp) ?_;simp;exact go _ (by simp[ar,hC])
   ·have hm2':¬((bB 4294967296 m).length:Int)≤2:=by omega
    simp[hl,hm2'];refine aZ hlong (by simp) ?_;simp;refine aZ ht (by simp) ?_;simp;exact go _ (by simp[ar,hC])
end Go.Proofs
namespace Go.Proofs
open Go.Sv Go Go.Pl
def Ph(x:Int):Prop := -9223372036854775808≤x∧x≤9223372036854775807
instance (x:Int):Decidable (Ph x):=inferInstanceAs (Decidable (_∧_))
end Go.Proofs
namespace Go.Proofs
open Go.Sv Go Go.Pl
theorem zh(k:Nat)(A B:aJ):fR k (A++B)=(fR k A&&fR k B):=by
 induction A with
 | nil=>simp[fR]
 | cons x A ih=>cases x<;>simp[fR,ih,Bool.and_assoc]
theorem vO{C:Ctx}{M:aJ}{k n:Nat}{K:aJ→List Nat→SV→Prop}(l:List Nat)(b d:Nat){d':Int}(hd':d'=d)(hn:n=l.length)(hk:ao M k=some ⟨1,l.map u32,false⟩)(hl:l.length≤4398046511103)(hx:∀d∈l,d<4294967296)(hb:b<4294967296)(hd:d<4294967296)
  (hfx:k∉C.fx) (hno:∀xs:List Nat,fR k (aN M k (some ⟨1,xs.map u32,false⟩))=true) (hK:∀(l':List Nat) (J:aJ),(∀d∈l',d<4294967296)→l'.length≤l.length+1→val 4294967296 l'=val 4294967296 l*b+d→K (aN M k (some ⟨1,l'.map u32,false⟩)++J) [k] (.view k 0 l'.length)) :
  dH Tryz.prog C 157 [.view k 0 n,.val (.int .u32 b),.val (.int .u32 d')] M none K:=by
 subst hd' hn;refine eI Tryz.func157 rfl (by simp) [k] (by simpa using hfx) (by simp) (fun C' hC=>?_);have hkC:k∉C'.fx:=by rw[hC];simp
 simp(disch:=omega)[aP,gx];refine ae.loop (ι:=List Nat × Nat × Nat) (fun⟨o,i,c⟩=>⟨43,[(0,.view k 0 l.length),(1,.val (.int .u32 b)),(7,.val (.int .u64 c)),(13,.val (.int .i64 l.length)),(14,.val (.int .i64 i))],aN M k (some ⟨1,o.map u32,false⟩)⟩)
  (fun⟨o,i,c⟩=>o.length=l.length∧i≤l.length∧(∀d∈o,d<4294967296)∧c<4294967296∧o.drop i=l.drop i∧val 4294967296 (o.take i)+4294967296^i*c=val 4294967296 (l.take i)*b+d)
  (fun⟨o,i,c⟩=>l.length - i) (l,0,d) ?_ ?_ ?_
 ·exact⟨rfl,by omega,hx,hd,rfl,by simp[val]⟩
 ·simp[ar,lL hk]
 ·rintro⟨o,i,c⟩ ⟨h1,h2,h3,h4,h5,h6⟩;have hk':=gm (M:=M) (k:=k) ⟨1,o.map u32,false⟩ hk;by_cases aF:i<l.length
  ·have bo:=dV h3 (by omega) i;have ho:dg o i=dg l i:=qp h5;obtain⟨t,ht⟩:∃t,t=dg o i*b+c:=⟨_,rfl⟩;have hgv:dg o i*b≤4294967295*4294967295:=anT (by omega) (by omega);have hgv':(dg o i:Int)*b≤18446744065119617025:=by rw[←anW];omega
   have hgv0:(0:Int)≤(dg o i:Int)*b:=by rw[←anW];omega
   have e1:(dg o i:Int)*b+c=t:=by rw[ht];push_cast;rfl
   obtain⟨c',hc'⟩:∃c',c'=t / 4294967296:=⟨_,rfl⟩;obtain⟨lo,hlo⟩:∃lo,lo=t % 4294967296:=⟨_,rfl⟩;have e2:(t:Int) % 4294967296=lo:=by omega
   have e3:(t:Int) / 4294967296=c':=by omega
   have hlo2:lo<4294967296:=by omega
   have F:=jO i h3 hlo2;have G:val 4294967296 ((o.set i lo).take (i+1))+4294967296^(i+1)*c'=val 4294967296 (l.take (i+1))*b+d:=by
    rw[dw _ (by omega),cP,anG,anI (by omega),dp,anj];simp only[val,anU,amA];have e:=Nat.mod_add_div t 4294967296;rw[←hlo,←hc',ht,ho]at e;generalize 4294967296^i=P at *;grind
   have D:(o.set i lo).drop (i+1)=l.drop (i+1):=by rw[eY];exact iN h5
   simp(disch:=omega)[aP,gx,aF,hk',bs,gE,kF,e1,e2,e3, -List.map_set];repeat refine And.intro (by omega) ?_
   refine⟨o.set i lo,i+1,c',⟨by simpa using h1,by omega,F,by omega,D,G⟩,by omega,by simp[ar]⟩
  ·obtain rfl:i=l.length:=by omega
   rw[List.take_length,anE (by omega)]at h6;by_cases hc:0<c
   ·have q1:=fun x=>mu x hk';have q2:=fun x=>IL (M:=aN M k (some ⟨1,o.map u32,false⟩)) (n:=M.length) x (by simp);have q3:=fun x y=>qN x y hk';have e:(c:Int) % 4294967296=c:=by omega
    simp(disch:=omega)[aP,hc,hk',gE,hkC,h1,q1,q2,q3,e,zh,hno];refine⟨by omega,?_⟩;have:=hK (o++[c]) [some ⟨1,[.val (.int .u32 c)],false⟩] (mC h3 h4) (by simp;omega) (by rw[cP,h1];simpa[val]using h6);simpa[h1]using this
   ·obtain rfl:c=0:=by omega
    simp(disch:=omega)[aP];have:=hK o [] h3 (by omega) (by simpa using h6);rw[h1]at this;simpa using this
end Go.Proofs

