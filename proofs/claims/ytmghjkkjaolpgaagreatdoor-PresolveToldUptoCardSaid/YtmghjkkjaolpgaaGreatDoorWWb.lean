/- A text of the prover's own. -/
import Derived.Test.YtmghjkkjaolpgaaGreatDoorWWa
open List renaming drop_drop→amS,take_append_drop→amT,length_take→amx,take_of_length_le→amv,map_take→amU,mem_append→alH,map_append→al4
open Nat renaming pow_pos→amV,add_assoc→ala,min_eq_left→amz,eq_zero_or_pos→alq,mul_le_mul_left→amf,mul_add→amc,mul_lt_mul_of_pos_right→amW,mul_zero→amL,add_zero→als,pow_succ→amb,lt_of_mul_lt_mul_left→amX,div_mul_le_self→amY,add_mul→akM,mul_le_mul_right→ak8,lt_of_mul_lt_mul_right→amZ,le_of_lt→am0,two_pow_pos→amC,mul_comm→amd,mul_assoc→ame,mul_right_comm→am1,div_eq_of_lt→amG,mod_eq_of_lt→amI,div_add_mod→am2,mod_lt→alk,lt_or_ge→alr,pow_le_pow_right→amg,le_trans→alJ,lt_trans→am3,div_lt_iff_lt_mul→amE,mul_le_mul→amK,gcd→am4,gcd_comm→am5,gcd_rec→am6
open Int renaming tmod_eq_emod_of_nonneg→am7,natCast_mul→amN,ediv_eq_zero_of_lt→am8,emod_eq_of_lt→am9,gcd→ana
set_option maxRecDepth 20000
set_option maxHeartbeats 8000000
namespace Go.Pl
theorem y6{l:List Nat}{n i:Nat}(h:i<n):dg (l.take n) i=dg l i:=by
 unfold dg;simp[List.getElem?_take,h]
theorem wB(l:List Nat)(n i:Nat):dg (l.drop n) i=dg l (n+i):=by
 unfold dg;simp[List.getElem?_drop]
theorem qW{B n:Nat}{l:List Nat}(h:∀d∈l,d<B):∀d∈l.take n,d<B:=fun d hd=>h d (List.mem_of_mem_take hd)
theorem yX{B n:Nat}{l:List Nat}(h:∀d∈l,d<B):∀d∈l.drop n,d<B:=fun d hd=>h d (List.mem_of_mem_drop hd)
theorem HS{B j n:Nat}{us:List Nat}{V:Nat}(hB:2≤B)(hu:∀d∈us,d<B)(hl:j+n+1≤us.length)(hV:V<B^n)(h:val B us<V*B^(j+1)) :
  val B us=val B (us.take j)+B^j*val B ((us.drop j).take (n+1))∧val B ((us.drop j).take (n+1))<V*B∧((us.drop j).take (n+1)).length=n+1∧val B (us.drop (j+n+1))=0:=by
 have hp:0<B^j:=amV (by omega);have e1:us=us.take j++((us.drop j).take (n+1)++us.drop (j+n+1)):=by
  have:us.drop (j+n+1)=(us.drop j).drop (n+1):=by rw[amS,ala]
  rw[this,amT,amT]
 have hlen:((us.drop j).take (n+1)).length=n+1:=by simp;omega
 have e2:val B us=val B (us.take j)+B^j*(val B ((us.drop j).take (n+1))+B^(n+1)*val B (us.drop (j+n+1))):=by
  conv=>lhs;rw[e1]
  rw[cO,cO,hlen,amx,amz (by omega)]
 have hz:val B (us.drop (j+n+1))=0:=by
  rcases alq (val B (us.drop (j+n+1)))with h0 | h0
  ·exact h0
  ·exfalso;have h1:B^j*(B^(n+1)*1)≤val B us:=by
    rw[e2];have:=amf (B^j) (amf (B^(n+1)) (show 1≤_ from h0));rw[amc];omega
   have h2:V*B^(j+1)<B^n*B^(j+1):=amW hV (amV (by omega));have h3:B^j*(B^(n+1)*1)=B^n*B^(j+1):=by grind
   omega
 rw[hz]at e2;simp only[amL,als]at e2;refine⟨e2,?_,hlen,hz⟩;rw[e2,amb]at h;have h4:B^j*val B ((us.drop j).take (n+1))<B^j*(V*B):=by
  have:V*(B^j*B)=B^j*(V*B):=by grind
  omega
 exact amX h4
theorem FR{B n:Nat}{S:List Nat}(h:S.length=n+3):val B S=((dg S (n+2)*B+dg S (n+1))*B+dg S n)*B^n+val B (S.take n):=by
 have e:S=S.take (n+3):=(amv (by omega)).symm
 conv=>lhs;rw[e]
 rw[dm,dm,dm];grind
theorem HP{B n:Nat}{S:List Nat}(h:S.length=n+2):val B S=(dg S (n+1)*B+dg S n)*B^n+val B (S.take n):=by
 have e:S=S.take (n+2):=(amv (by omega)).symm
 conv=>lhs;rw[e]
 rw[dm,dm];grind
theorem jM{B n:Nat}{S:List Nat}(h:∀d∈S,d<B)(hl:n≤S.length):val B (S.take n)<B^n:=by
 have:=kE (S.take n) (qW h)
 rwa [amx,amz hl]at this
theorem Ao{B K v1 v2 V0 top u2 U0 U V:Nat}(hV:V=(v1*B+v2)*K+V0)(hU:U=(top*B+u2)*K+U0)(hU0:U0<K)(hu2:u2<B)(hv1:0<v1):U / V≤top / v1:=by
 rw[Nat.le_div_iff_mul_le hv1];rcases alq V with h0 | h0
 ·rw[h0];simp
 have h1:U / V*V≤U:=amY U V;have h2:U / V*(v1*B*K)≤U / V*V:=amf _ (by rw[hV,akM];omega);have h3:U<(top+1)*(B*K):=by
  have:(top*B+u2+1)*K≤((top+1)*B)*K:=ak8 K (by rw[akM];omega);rw[hU];have e:(top*B+u2+1)*K=(top*B+u2)*K+K:=by grind
  have e2:(top+1)*B*K=(top+1)*(B*K):=by grind
  omega
 have h4:U / V*v1*(B*K)<(top+1)*(B*K):=by
  have:U / V*v1*(B*K)=U / V*(v1*B*K):=by grind
  omega
 have:=amZ h4;omega
theorem Nl{B K v1 v2 V0 u0 u1 u2 U0 U V:Nat}(hV:V=(v1*B+v2)*K+V0)(hU:U=((u0*B+u1)*B+u2)*K+U0)(hV0:V0<K)(hv2:v2<B)(h:U<V*B):u0≤v1:=by
 have h1:V<(v1+1)*(B*K):=by
  have:(v1*B+v2+1)*K≤((v1+1)*B)*K:=ak8 K (by rw[akM];omega);have e:(v1*B+v2+1)*K=(v1*B+v2)*K+K:=by grind
  have e2:(v1+1)*B*K=(v1+1)*(B*K):=by grind
  omega
 have h2:u0*(B*K)*B≤U:=by
  have:U=u0*(B*K)*B+((u1*B+u2)*K+U0):=by rw[hU];grind
  omega
 have h3:V*B≤(v1+1)*(B*K)*B:=ak8 B (am0 h1);have h4:u0*(B*K*B)<(v1+1)*(B*K*B):=by
  have e1:u0*(B*K)*B=u0*(B*K*B):=by grind
  have e2:(v1+1)*(B*K)*B=(v1+1)*(B*K*B):=by grind
  omega
 have:=amZ h4;omega
theorem GW{B n:Nat}(hB:2≤B)(hn:n≠0):dg (bC B n) ((bC B n).length - 1)≠0:=by
 have h:=xg hB n;rcases pZ (bC B n)with h0 | ⟨zs,z,h0⟩
 ·exact absurd ((bR hB).1 h0) hn
 ·rw[h0]at h ⊢;have e:dg (zs++[z]) ((zs++[z]).length - 1)=z:=by unfold dg;simp
  rw[e];rintro rfl;rw[ku]at h;have:=ru zs;rw[h]at this;simp at this;omega
theorem Ny{B n t:Nat}{b:List Nat}(hb:∀d∈b,d<B)(hl:b.length=n+1)(hB:B=2^t*(B / 2^t))(ht:2^t*dg b n<B):val B b*2^t<B^(n+1):=by
 have e:b=b.take (n+1):=(amv (by omega)).symm;have h1:=jM hb (show n≤b.length by omega);have h2:val B b=val B (b.take n)+B^n*dg b n:=by conv=>lhs;rw[e,dm]
 have hp:0<2^t:=amC t;have h3:(dg b n+1)*2^t≤B:=by
  rw[hB]at ht ⊢;have:=amX ht;rw[amd];exact amf _ this
 have h4:val B b<B^n*(dg b n+1):=by rw[h2,amc];omega
 have h5:val B b*2^t<B^n*(dg b n+1)*2^t:=amW h4 hp;have h6:B^n*(dg b n+1)*2^t≤B^n*B:=by rw[ame];exact amf _ h3
 rw[amb];omega
theorem NZ{B n:Nat}{l:List Nat}(hl:l.length=n+1):dg l n*B^n≤val B l:=by
 have e:l=l.take (n+1):=(amv (by omega)).symm;have h2:val B l=val B (l.take n)+B^n*dg l n:=by conv=>lhs;rw[e,dm]
 rw[h2,amd];omega
theorem NY{B n x:Nat}{l:List Nat}(hB:0<B)(hl:l.length=n+1)(hd:∀d∈l,d<B)(h:x*B^n≤val B l):x≤dg l n:=by
 have e:l=l.take (n+1):=(amv (by omega)).symm;have h2:val B l=val B (l.take n)+B^n*dg l n:=by conv=>lhs;rw[e,dm]
 have h1:=jM hd (show n≤l.length by omega);have h3:x*B^n<(dg l n+1)*B^n:=by
  have:(dg l n+1)*B^n=B^n*dg l n+B^n:=by rw[akM,amd];omega
  omega
 have:=amZ h3;omega
theorem B4{B j n:Nat}{us vs:List Nat}(hB:2≤B)(hu:∀d∈us,d<B)(hv:∀d∈vs,d<B)(hl:j+n+1≤us.length)(hvl:vs.length=n)(hn:2≤n)(h:val B us<val B vs*B^(j+1)) :
  ∃S,S=(us.drop j).take (n+1)∧S.length=n+1∧(∀d∈S,d<B)∧val B us=val B (us.take j)+B^j*val B S∧val B S<val B vs*B ∧
   val B S=((dg us (j+n)*B+dg us (j+n - 1))*B+dg us (j+n - 2))*B^(n - 2)+val B (S.take (n - 2))∧val B (S.take (n - 2))<B^(n - 2) ∧
   val B vs=(dg vs (n - 1)*B+dg vs (n - 2))*B^(n - 2)+val B (vs.take (n - 2))∧val B (vs.take (n - 2))<B^(n - 2)∧val B (us.drop (j+n+1))=0:=by
 have hV:val B vs<B^n:=by have:=kE vs hv;rwa [hvl]at this
 obtain⟨h1,h2,h3,h4⟩:=HS hB hu hl hV h;obtain⟨k,rfl⟩:∃k,n=k+2:=⟨n - 2,by omega⟩;refine⟨_,rfl,h3,qW (yX hu),h1,h2,?_,?_,?_,?_,h4⟩
 ·have:=FR (B:=B) (n:=k) h3;rw[y6 (by omega),y6 (by omega),y6 (by omega),wB,wB,wB]at this;exact this
 ·exact jM (qW (yX hu)) (by rw[h3];omega)
 ·exact HP hvl
 ·exact jM hv (by omega)
theorem Kc{B n:Nat}{us:List Nat}(h:val B us<B^n)(hl:n≤us.length):val B (us.take n)=val B us:=by
 have e:val B us=val B (us.take n)+B^n*val B (us.drop n):=by
  conv=>lhs;rw[←amT n us]
  rw[cO,amx,amz hl]
 rcases alq (val B (us.drop n))with h0 | h0
 ·rw[e,h0];simp
 ·have:=amf (B^n) (show 1≤_ from h0);omega
theorem IF{m n P U Q:Nat}(hn:0<n)(hP:0<P)(h:m*P=U+n*P*Q)(hU:U<n*P):Q=m / n∧U / P=m % n:=by
 have e:U=P*(m - n*Q):=by
  have:n*P*Q=P*(n*Q):=by grind
  rw[Nat.mul_sub,amd P m];omega
 have h1:U / P=m - n*Q:=by rw[e];exact Nat.mul_div_cancel_left _ hP
 have h2:m - n*Q<n:=by
  rw[e,amd n P]at hU;exact amX hU
 have h3:n*Q≤m:=by
  have:n*Q*P≤m*P:=by rw[h,am1];omega
  exact Nat.le_of_mul_le_mul_right this hP
 obtain⟨r,rfl⟩:∃r,m=n*Q+r:=⟨m - n*Q,by omega⟩;rw[Nat.add_sub_cancel_left]at h1 h2;rw[h1,Nat.mul_add_div hn,Nat.mul_add_mod,amG h2,amI h2];simp
def Bt(q g:Nat):Prop:=g=q∨g=q+1
theorem take_zero{U o g V:Nat}(hV:0<V)(h:Bt (U / V) g)(e:U=o+g*V):g=U / V∧o=U % V:=by
 have h1:=am2 U V;have h2:=alk U hV;rcases h with h | h
 ·refine⟨h,?_⟩;rw[amd,←h]at h1;omega
 ·exfalso;rw[h,akM,amd (U / V)]at e;omega
theorem take_one{U P o o' c g V:Nat}(hV:0<V)(hVP:V≤P)(h:Bt (U / V) g)(e:U+P=o+g*V)(ho:o<P)(e':o+V=o'+P*c)(ho':o'<P):g=U / V+1∧o'=U % V:=by
 have h1:=am2 U V;have h2:=alk U hV;rcases h with h | h
 ·exfalso;rw[h,amd]at e;omega
 ·refine⟨h,?_⟩;rw[h,akM,amd (U / V)]at e;rcases Nat.lt_trichotomy c 1 with hc | hc | hc
  ·obtain rfl:c=0:=by omega
   simp at e';omega
  ·subst hc;omega
  ·have:=amf P (show 2≤c from hc);omega
theorem EV{B P m V L U q rest Q:Nat}(h:m=(L+P*U)+V*(P*B*Q))(hq:U=V*q+rest):m=(L+P*rest)+V*(P*(q+B*Q)):=by
 subst hq;grind
end Go.Pl
namespace Go.Proofs
open Go.Sv Go Go.Pl
theorem Dc(m n:Nat)(hn:n≠0)(hwm:wid 4294967296 m≤2000000000000)(hwn:wid 4294967296 n≤2000000000000) :
  aF Tryz.prog 165 [.ro ((bC 4294967296 m).map u32),.ro ((bC 4294967296 n).map u32)] (.bO [.ro ((bC 4294967296 (m / n)).map u32),.ro ((bC 4294967296 (m % n)).map u32)]):=by
 refine aj Tryz.func165 rfl (by simp) (fun C hC=>?_);have B2:2≤4294967296:=by omega
 have hc:=p8 m n (by omega) (by omega);have vm:=cr B2 m;have vn:=cr B2 n;have lm:=cS B2 m;have ln:=cS B2 n;have hne:bC 4294967296 n≠[]:=fun h=>hn ((bR B2).1 h);simp only[wid]at hwm hwn;simp;refine ba hc (by simp) ?_;rcases alr m n with az | hge
 ·have e:dV m n = -1:=by simp[dV,az]
  rw[e];simp;rw[amG az,amI az];simp[aZ,amv];omega
 ·have e:¬dV m n<0:=by simp[dV];omega
  simp[e];have hlen:(bC 4294967296 n).length≤(bC 4294967296 m).length:=ch B2 hge;refine⟨fun h1=>?_,fun h1=>?_⟩
  ·obtain⟨d,hd⟩:=List.length_eq_one_iff.1 (by omega:(bC 4294967296 n).length=1);rw[hd]at vn ln;simp[val]at vn ln;subst vn;rw[hd];simp;refine aa.akJ (.qs [0,2,3]<|.q 4 [1000000]<|.l 1 [1000000]<|.l 5 [0,1000000]<|.qs [6,7,8,9,10]<|.nil) ?_;simp;refine⟨by omega,?_⟩;refine uT (bC 4294967296 m) [] d (by simp) (by omega) lm (by omega) (by simp[ax];rintro i e h;cases i<;>simp_all [ax]) (fun q h2 h3 h4=>?_);rw[vm]at h4 ⊢;simp;refine ba (mi [m % d] (by simp)) (by simp) ?_;simp;have e1:bC 4294967296 (m / d)=cj q:=by rw[←h4,fp B2 q h2]
   have e2:bC 4294967296 (m % d)=cj [m % d]:=by
    have:=fp B2 [m % d] (by simp;have:=alk m (show 0<d by omega);omega);simpa[val]using this
   rw[e1,e2];simp[ru,←amU,uL]
  ·have hT0:0<dg (bC 4294967296 n) ((bC 4294967296 n).length - 1):=Nat.pos_of_ne_zero (GW B2 hn);generalize bC 4294967296 m=a at *;generalize bC 4294967296 n=b at *;have hb1:b.length≠1:=by omega
   have hb0:b.length≠0:=fun h=>hne (List.length_eq_zero_iff.1 h);have bT:=dO ln (by omega) (b.length - 1);refine aa.loop (ι:=Nat) (fun up=>⟨180,[(0,.ro (a.map u32)),(1,.ro (b.map u32)),(8,.val (.int .u64 up))],[]⟩) (fun up=>up<32∧2^up*dg b (b.length - 1)<4294967296) (fun up=>32 - up) 0 ?_ ?_ ?_
   ·simp;omega
   ·simp[aw,hC]
   ·rintro up ⟨hu1,hu2⟩;obtain⟨T,hT⟩:∃T,T=2^up*dg b (b.length - 1):=⟨_,rfl⟩;have e1:(dg b (b.length - 1):Int)*2^up=T:=by rw[hT];push_cast;exact Int.mul_comm _ _
    have hmin:min up 32=up:=by omega
    rw[←hT]at hu2;have e3:(T:Int) % 4294967296=T:=by omega
    by_cases hh:T<2147483648
    ·have e2:(T:Int) / 2147483648=0:=by omega
     have h31:up+1<32:=by
      rcases alr (up+1) 32 with h | h
      ·exact h
      ·exfalso;obtain rfl:up=31:=by omega
       omega
     simp(disch:=omega)[aN,bn,gU,gu,JW,e1,e2,e3,hmin];refine⟨by omega,up+1,⟨h31,by rw[amb,am1,←hT];omega⟩,by omega,by simp[aw,hC]⟩
    ·have e2:(T:Int) / 2147483648=1:=by omega
     simp(disch:=omega)[aN,bn,gU,gu,JW,e1,e2,e3,hmin];refine⟨by omega,?_⟩;have hBu:4294967296=2^up*(4294967296 / 2^up):=by
      rw[Nat.mul_div_cancel'];exact Nat.pow_dvd_pow 2 (show up≤32 by omega)
     have fa:val 4294967296 a*2^up<4294967296^(a.length+1):=by
      have h1:=kE a lm;have h2:2^up<4294967296:=Nat.pow_lt_pow_right (by omega) (show up<32 by omega);rw[amb];exact Nat.mul_lt_mul'' h1 h2
     have fb:val 4294967296 b*2^up<4294967296^b.length:=by
      have:=Ny (n:=b.length - 1) ln (by omega) hBu (by rw[←hT];omega)
      rwa [show b.length - 1+1=b.length by omega]at this
     refine xJ a up (a.length+1) (by push_cast;rfl) lm hu1 (by omega) (by omega) fa (fun us gu1 gu2 gu3=>?_);simp;refine xJ b up b.length rfl ln hu1 (by omega) (by omega) fb (fun vs gv1 gv2 gv3=>?_);obtain⟨c0,hc0⟩:∃c0,a.length+1=c0+b.length:=⟨a.length+1 - b.length,by omega⟩;have ec0:(a.length:Int)+1 - b.length=c0:=by omega
     simp(disch:=omega)[aN,ec0];refine⟨by omega,?_⟩;obtain⟨V,hV⟩:∃V,V=val 4294967296 vs:=⟨_,rfl⟩;have hV1:V<4294967296^b.length:=by rw[hV,gv3];exact fb
     have hV0:0<V:=by rw[hV,gv3,vn];exact Nat.mul_pos (by omega) (amC up)
     have hTV:T*4294967296^(b.length - 1)≤V:=by
      have:=NZ (B:=4294967296) (n:=b.length - 1) (l:=b) (by omega);rw[hV,gv3,hT,ame,amd];exact ak8 _ this
     have hvt:2147483648≤dg vs (b.length - 1):=by
      have:=NY (by omega) (show vs.length=b.length - 1+1 by omega) gv2 (by rw[←hV];exact hTV);omega
     refine aa.loop (ι:=List Nat × List Nat × Nat) (fun⟨us,qs,c⟩=>⟨180,[(8,.val (.int .u64 up)),(9,.view 0 0 (a.length+1)),(10,.view 1 0 b.length),(11,.val (.int .i64 b.length)),(12,.view 2 0 c0),(13,.val (.int .i64 ((c:Int) - 1)))],
       [some ⟨1,us.map u32,false⟩,some ⟨1,vs.map u32,false⟩,some ⟨1,qs.map u32,false⟩]⟩)
      (fun⟨us,qs,c⟩=>us.length=a.length+1∧qs.length=c0∧c≤c0∧(∀d∈us,d<4294967296)∧(∀d∈qs,d<4294967296)∧val 4294967296 us<V*4294967296^c∧m*2^up=val 4294967296 us+V*(4294967296^c*val 4294967296 (qs.drop c)))
      (fun⟨us,qs,c⟩=>c) (us,List.replicate c0 0,c0) ?_ ?_ ?_
     ·refine⟨gu1,by simp,by omega,gu2,by simp,?_,?_⟩
      ·rw[gu3];have h1:=kE a lm;have h2:2^up≤2147483648:=amg (by omega) (show up≤31 by omega);have h3:val 4294967296 a*2^up≤val 4294967296 a*2147483648:=amf _ h2;have h4:val 4294967296 a*2147483648<4294967296^a.length*2147483648:=amW h1 (by omega);have h5:4294967296^a.length=4294967296^(b.length - 1)*4294967296^c0:=by rw[←Nat.pow_add];congr 1;omega
       have h6:2147483648*4294967296^(b.length - 1)≤V:=alJ (ak8 _ (by omega)) hTV;have h7:=ak8 (4294967296^c0) h6;have h8:4294967296^a.length*2147483648=2147483648*4294967296^(b.length - 1)*4294967296^c0:=by rw[h5];grind
       omega
      ·rw[gu3,vm];simp[val]
     ·simp[aw,hC]
     ·rintro⟨us,qs,c⟩ ⟨g1,g2,g3,g4,g5,g6,g7⟩;cases c with
      | zero =>
       have hUV0:val 4294967296 us<V:=by simpa using g6
       have hUn:val 4294967296 (us.take b.length)=val 4294967296 us:=Kc (am3 hUV0 hV1) (by omega);have hend:=IF (m:=m) (n:=n) (P:=2^up) (U:=val 4294967296 us) (Q:=val 4294967296 qs) (by omega) (amC up) (by rw[g7,hV,gv3,vn];simp) (by rw[←vn,←gv3,←hV];exact hUV0);simp;refine aa.akJ (.qs [0,2,3,4,5]<|.l 1 []<|.l 6 []<|.qs [7,8]<|.nil) ?_;simp;refine⟨by omega,?_⟩;refine ba (mi qs (by omega)) (by simp[amv,g2]) ?_;simp;refine ba (Hd (us.take b.length) up (qW g4) hu1 (by simp;omega)) (by simp[g1,amU];omega) ?_;rw[hUn,hend.2,←hend.1,fp B2 qs g5];simp
      | succ j =>
       simp(disch:=omega)[aN,bn];refine aa.akJ (.qs [0,1,2,3,4,5,6,7,8,9,10,11,12,13,14,15,16,17]<|.nil) ?_;have hbu0:=dO g4 (by omega) (j+b.length);have hbu1:=dO g4 (by omega) (j+b.length - 1);simp(disch:=omega)[aN,bn,gu,k9];refine⟨⟨by omega,by omega⟩,by omega,⟨by omega,by omega⟩,by omega,?_⟩;refine aa.akJ (.qs [0,1,2,3,4,5,6,7,8,9,10,11,12,13,14,15,16,17]<|.nil) ?_;simp(disch:=omega)[aN,bn,gu,k9];have bv1:=dO gv2 (by omega) (b.length - 1);have bv2:=dO gv2 (by omega) (b.length - 2);have bu2:=dO g4 (by omega) (j+b.length - 2);have nv1:¬(dg vs (b.length - 1):Int)=0:=by omega
       simp(disch:=omega)[aN,bn,gu,k9,nv1,Int.tdiv_eq_ediv_of_nonneg,am7];repeat refine And.intro (by omega) ?_
       obtain⟨S,hS,hSl,hSd,hval,hUV,hSt,hS0,hVt,hV00,hRz⟩:=B4 B2 g4 gv2 (show j+b.length+1≤us.length by omega) gv1 (by omega) (by rw[←hV];exact g6);rw[←hV]at hUV hVt;obtain⟨U,hU⟩:∃U,U=val 4294967296 S:=⟨_,rfl⟩;rw[←hU]at hval hUV hSt;obtain⟨top,htop⟩:∃top,top=dg us (j+b.length)*4294967296+dg us (j+b.length - 1):=⟨_,rfl⟩;obtain⟨v1,hv1⟩:∃v1,v1=dg vs (b.length - 1):=⟨_,rfl⟩;obtain⟨v2,hv2⟩:∃v2,v2=dg vs (b.length - 2):=⟨_,rfl⟩;obtain⟨u2,hu2'⟩:∃u2,u2=dg us (j+b.length - 2):=⟨_,rfl⟩;have hul:dg us (j+b.length)≤dg vs (b.length - 1):=Nl hVt hSt hV00 bv2 hUV;have et:(dg us (j+b.length):Int)*4294967296+dg us (j+b.length - 1)=top:=by omega
       rw[←htop,←hu2']at hSt;rw[←hv1,←hv2]at hVt;have hv10:0<v1:=by omega
       have htop2:top<(v1+1)*4294967296:=by rw[akM];omega
       have q0:U / V≤top / v1:=Ao hVt hSt hS0 (by omega) hv10;have qB:U / V<4294967296:=by rw[amE hV0,amd];exact hUV
       have g0:top / v1≤4294967297:=by
        have:top / v1<4294967298:=by
         rw[amE hv10];omega
        omega
       have ed:(top:Int) / v1=((top / v1:Nat):Int):=by simp
       have ew:IntKind.u64.wrap ((top:Int) / v1)=(top:Int) / v1:=by
        rw[ed];generalize top / v1=z at g0;rw[gu];omega
       have near:∀g r,g*v1+r=top→U / V≤g→g<4294967296→g*v2≤r*4294967296+u2→Bt (U / V) g:=fun g r h1 h2 h3 h4 =>
        BE rfl hV0 h2 (Ek hVt hSt hV00 hv10 (by omega) h1 h4 (by omega))
       refine aa.cut (fun e st'=>e=.exit 4∧∃g:Nat,Bt (U / V) g∧g<4294967296∧aw C st' ⟨180,[(8,.val (.int .u64 up)),(9,.view 0 0 (a.length+1)),(10,.view 1 0 b.length),(11,.val (.int .i64 b.length)),(12,.view 2 0 c0),(13,.val (.int .i64 j)),(15,.val (.int .u64 g))],
        [some ⟨1,us.map u32,false⟩,some ⟨1,vs.map u32,false⟩,some ⟨1,qs.map u32,false⟩]⟩) ?_ ?_
       ·refine aa.loop (ι:=Nat × Nat) (fun⟨g,r⟩=>⟨180,[(8,.val (.int .u64 up)),(9,.view 0 0 (a.length+1)),(10,.view 1 0 b.length),(11,.val (.int .i64 b.length)),(12,.view 2 0 c0),(13,.val (.int .i64 j)),(15,.val (.int .u64 g)),(16,.val (.int .u64 r))],
          [some ⟨1,us.map u32,false⟩,some ⟨1,vs.map u32,false⟩,some ⟨1,qs.map u32,false⟩]⟩)
         (fun⟨g,r⟩=>g*v1+r=top∧U / V≤g∧g≤4294967297∧r<4294967296) (fun⟨g,r⟩=>g) (top / v1,top % v1) ?_ ?_ ?_
        ·refine⟨?_,q0,g0,?_⟩
         ·have:=am2 top v1;rw[amd]at this;exact this
         ·have:=alk top hv10;omega
        ·simp[aw,hC,et,ew,←hv1]
        ·rintro⟨g,r⟩ ⟨k1,k2,k3,k4⟩;have body:∀g1,g=g1+1→U / V<g→(g1*v1+(r+v1)=top∧U / V≤g1∧g1≤4294967297)∧(4294967296≤r+v1→Bt (U / V) g1∧g1<4294967296):=by
          intro g1 hg1 az;subst hg1;have e:g1*v1+(r+v1)=top:=by rw[←k1,akM];omega
          refine⟨⟨e,by omega,by omega⟩,fun hr=>?_⟩;have hg2:g1<4294967296:=by
           have:g1*v1<4294967296*v1:=by rw[akM]at htop2;omega
           exact amZ this
          refine⟨near g1 (r+v1) e (by omega) hg2 ?_,hg2⟩;have h1:g1*v2≤4294967296*4294967296:=amK (by omega) (by omega);have h2:=ak8 4294967296 hr;omega
         simp(disch:=omega);refine aa.akJ (.qs [0,1,2,3,4,5,6,7,8,9,10,11,12,13,14,15,16,17,18,19,20,21,22,23,24]<|.nil) ?_;by_cases hA:4294967296≤g
         ·obtain⟨g1,rfl⟩:∃g1,g=g1+1:=⟨g - 1,by omega⟩;have hA':0<((g1:Int)+1) / 4294967296:=by omega
          obtain⟨⟨b1,b2,b3⟩,b4⟩:=body g1 rfl (by omega);by_cases hr:4294967296≤r+v1
          ·have hr':0<((r:Int)+v1) / 4294967296:=by omega
           simp(disch:=omega)[aN,gu,bn,hA',hr',←hv1];refine⟨by omega,by omega,g1,(b4 hr).1,(b4 hr).2,by simp[aw,hC]⟩
          ·have hr':¬0<((r:Int)+v1) / 4294967296:=by omega
           simp(disch:=omega)[aN,gu,bn,hA',hr',←hv1];refine⟨by omega,by omega,g1,r+v1,⟨b1,b2,b3,by omega⟩,by omega,by simp[aw,hC]⟩
         ·have hA':¬0<(g:Int) / 4294967296:=by omega
          have hgv:g*v2≤4294967295*4294967295:=amK (by omega) (by omega);have hgv':(g:Int)*v2≤18446744065119617025:=by rw[←amN];omega
          have hgv0:(0:Int)≤(g:Int)*v2:=by rw[←amN];omega
          by_cases hB:r*4294967296+u2<g*v2
          ·have hBI:(r:Int)*4294967296+u2<(g:Int)*v2:=by rw[←amN];omega
           have hql:U / V<g:=EM hVt hSt hS0 (amY U V) k1 hB;have hg0:0<g:=Nat.lt_of_le_of_lt (Nat.zero_le _) hql;obtain⟨g1,rfl⟩:∃g1,g=g1+1:=⟨g - 1,by omega⟩;obtain⟨⟨b1,b2,b3⟩,b4⟩:=body g1 rfl hql;have hA2:¬0<((g1:Int)+1) / 4294967296:=by omega
           have hcast:((g1+1:Nat):Int)*v2=((g1:Int)+1)*v2:=by push_cast;rfl
           rw[hcast]at hgv' hgv0;have hB':=hBI;rw[hcast]at hB';by_cases hr:4294967296≤r+v1
           ·have hr':0<((r:Int)+v1) / 4294967296:=by omega
            simp(disch:=omega)[aN,gu,bn,k9,hA2,hB',hr',←hv1,←hv2,←hu2'];refine⟨by omega,by omega,by omega,by omega,by omega,by omega,g1,(b4 hr).1,(b4 hr).2,by simp[aw,hC]⟩
           ·have hr':¬0<((r:Int)+v1) / 4294967296:=by omega
            simp(disch:=omega)[aN,gu,bn,k9,hA2,hB',hr',←hv1,←hv2,←hu2'];refine⟨by omega,by omega,by omega,by omega,by omega,by omega,g1,r+v1,⟨b1,b2,b3,by omega⟩,by omega,by simp[aw,hC]⟩
          ·have hB':¬(r:Int)*4294967296+u2<(g:Int)*v2:=by rw[←amN];omega
           simp(disch:=omega)[aN,gu,bn,k9,hA',hB',←hv1,←hv2,←hu2'];refine⟨by omega,by omega,by omega,by omega,g,near g r k1 k2 (by omega) (by omega),by omega,by simp[aw,hC]⟩
       ·rintro e st' ⟨rfl,g,hg,hgB,hle⟩;refine⟨_,hle,?_⟩;simp(disch:=omega)[aN];refine⟨by omega,?_⟩;have husS:us=us.take j++(S++us.drop (j+b.length+1)):=by
         have:us.drop (j+b.length+1)=(us.drop j).drop (b.length+1):=by rw[amS,ala]
         rw[hS,this,amT,amT]
        have hVP:V≤4294967296^S.length:=by
         rw[hSl,amb];omega
        have fin:∀o',o'.length=S.length→(∀d∈o',d<4294967296)→val 4294967296 o'=U % V →
          (us.take j++(o'++us.drop (j+b.length+1))).length=a.length+1∧(qs.set j (U / V)).length=c0∧j≤c0∧(∀d∈us.take j++(o'++us.drop (j+b.length+1)),d<4294967296)∧(∀d∈qs.set j (U / V),d<4294967296) ∧
          val 4294967296 (us.take j++(o'++us.drop (j+b.length+1)))<V*4294967296^j∧m*2^up=val 4294967296 (us.take j++(o'++us.drop (j+b.length+1)))+V*(4294967296^j*val 4294967296 ((qs.set j (U / V)).drop j)):=by
         intro o' h1 h2 h3;have hv:val 4294967296 (us.take j++(o'++us.drop (j+b.length+1)))=val 4294967296 (us.take j)+4294967296^j*(U % V):=by
          rw[cO,cO,hRz,h3,amx,amz (by omega)];simp
         have hL:=jM g4 (show j≤us.length by omega);have hr:=alk U hV0;refine⟨by simp;omega,by simpa using g2,by omega,?_,j0 _ g5 qB,?_,?_⟩
         ·intro d hd;rcases alH.1 hd with hd | hd
          ·exact qW g4 d hd
          ·rcases alH.1 hd with hd | hd
           ·exact h2 d hd
           ·exact yX g4 d hd
         ·rw[hv];have:=amf (4294967296^j) (show U % V+1≤V from hr);rw[amc,Nat.mul_one,amd (4294967296^j) V]at this;omega
         ·rw[hv,df _ (qs.set j (U / V)),mL _ (by omega),if_pos rfl,eJ];rw[hval,amb]at g7;exact EV g7 (am2 U V).symm
        refine w6 ((us.take j).map u32) ((us.drop (j+b.length+1)).map u32) S vs g ?_ (by simp[ax]) (by omega) (by simp;omega) (by omega) gv1.symm hSd gv2 hgB (by omega) (by omega) (fun o bw ho1 ho2 ho3 ho4=>?_)
        ·simp only[ax];rw[←al4,←al4,←husS]
        ·rw[←hU,←hV]at ho4;by_cases hbw:0<bw
         ·obtain rfl:bw=1:=by omega
          simp(disch:=omega)[aN,gu];refine⟨by omega,?_⟩;refine wV ((us.take j).map u32) ((us.drop (j+b.length+1)).map u32) o vs ?_ (by simp[ax]) (by omega) (by simp;omega) (by omega) gv1.symm ho2 gv2 (by omega) (by omega) (fun o' c1 hp1 hp2 hp3=>?_)
          ·simp[ax]
          ·rw[←hV,ho1]at hp3;obtain⟨f1,f2⟩:=take_one hV0 hVP hg (by simpa using ho4) (by rw[←ho1];exact kE o ho2) hp3 (by rw[←ho1,←hp1];exact kE o' hp2);obtain⟨G1,G2,G3,G4,G5,G6,G7⟩:=fin o' (by omega) hp2 f2;generalize U / V=q at *;subst f1;have eq1:(q:Int) % 4294967296=q:=by omega
           simp(disch:=omega)[aN,gu,gU,bn,eq1];refine⟨by omega,by omega,_,qs.set j q,j,⟨G1,G2,G3,G4,G5,G6,G7⟩,by omega,by simp[aw,hC,ct]⟩
         ·obtain rfl:bw=0:=by omega
          obtain⟨f1,f2⟩:=take_zero hV0 hg (by simpa using ho4);obtain⟨G1,G2,G3,G4,G5,G6,G7⟩:=fin o (by omega) ho2 f2;generalize U / V=q at *;subst f1;have eq1:(g:Int) % 4294967296=g:=by omega
          simp(disch:=omega)[aN,gu,gU,bn,eq1];refine⟨by omega,by omega,_,qs.set j g,j,⟨G1,G2,G3,G4,G5,G6,G7⟩,by omega,by simp[aw,hC,ct]⟩
end Go.Proofs
namespace Go.Proofs
open Go.Sv Go Go.Pl
theorem Er{x y q r:Int}(hy:y≠0)(h:x=r+y*q)(h0:0≤r)(h1:r<y.natAbs):x / y=q∧x % y=r:=by
 subst h;rw[Int.add_mul_ediv_left _ _ hy,Int.add_mul_emod_self_left];rcases Int.lt_or_gt_of_ne hy with h | h
 ·have e1:r / y=0:=by
   rw[show y = -(-y) by omega,Int.ediv_neg,am8 h0 (by omega)];rfl
  have e2:r % y=r:=by
   rw[show y = -(-y) by omega,Int.emod_neg,am9 h0 (by omega)]
  rw[e1,e2];simp
 ·rw[am8 h0 (by omega),am9 h0 (by omega)];simp
theorem x3{x y:Int}(h:y.natAbs≤x.natAbs)(hx:fit x):fit y:=alJ (ch (by omega) h) hx
theorem rW{x:Int}(h:x.natAbs<4294967296^3):fit x:=alJ (ir (by omega) h) (by omega)
theorem vF(b:Bool)(n:Nat)(h:wid 4294967296 n≤1000000000000):aF Tryz.prog 129 [.val (.bool b),.ro ((bC 4294967296 n).map u32)] (cK (if b=true then -(n:Int) else(n:Int))):=by
 have:=j9 b (bC 4294967296 n) (by simp only[wid]at h;omega) (cS (by omega) n)
 rwa [cr (by omega)]at this
theorem rR(x y:Int)(hx:fit x)(hy:fit y) :
  aF Tryz.prog 159 [cK x,cK y] (.bO [cK (x / y),cK (if y=0 then 0 else x % y),.val (.bool (decide (y≠0)))]):=by
 refine aj Tryz.func159 rfl (by simp) (fun C hC=>?_);by_cases h0:y=0
 ·subst h0;simp[cK,aZ]
 ·have hy0:y.natAbs≠0:=by omega
  have hne:¬(bC 4294967296 y.natAbs)=[]:=fun h=>hy0 ((bR (by omega)).1 h);have hq1:x.natAbs / y.natAbs≤x.natAbs:=Nat.div_le_self _ _;have hr1:x.natAbs % y.natAbs≤x.natAbs:=Nat.mod_le _ _;have hr2:=alk x.natAbs (show 0<y.natAbs by omega);have hdm:=am2 x.natAbs y.natAbs;have hl:=Dc x.natAbs y.natAbs hy0 (alJ hx (by omega)) (alJ hy (by omega));generalize x.natAbs / y.natAbs=Q at *;generalize x.natAbs % y.natAbs=R at *;have hm1:=vF (decide (x<0) != decide (y<0)) Q (alJ (ch (by omega) hq1) hx);have hm2:=vF (decide (x<0)) R (alJ (ch (by omega) hr1) hx);obtain⟨q,hq⟩:∃q,q=(if(decide (x<0) != decide (y<0))=true then -(Q:Int) else(Q:Int)):=⟨_,rfl⟩;obtain⟨r,hr⟩:∃r,r=(if decide (x<0)=true then -(R:Int) else(R:Int)):=⟨_,rfl⟩;rw[←hq]at hm1;rw[←hr]at hm2;have hxq:x=r+y*q:=by
   have hdm':(y.natAbs:Int)*Q+R=x.natAbs:=by rw[←amN,←Int.natCast_add,hdm]
   by_cases h1:x<0<;>by_cases h2:y<0
   ·have e1:(x.natAbs:Int) = -x:=by omega
    have e2:(y.natAbs:Int) = -y:=by omega
    rw[e1,e2]at hdm';simp[h1,h2]at hq hr;subst hq hr;grind
   ·have e1:(x.natAbs:Int) = -x:=by omega
    have e2:(y.natAbs:Int)=y:=by omega
    rw[e1,e2]at hdm';simp[h1,h2]at hq hr;subst hq hr;grind
   ·have e1:(x.natAbs:Int)=x:=by omega
    have e2:(y.natAbs:Int) = -y:=by omega
    rw[e1,e2]at hdm';simp[h1,h2]at hq hr;subst hq hr;grind
   ·have e1:(x.natAbs:Int)=x:=by omega
    have e2:(y.natAbs:Int)=y:=by omega
    rw[e1,e2]at hdm';simp[h1,h2]at hq hr;subst hq hr;grind
  have hra:r.natAbs=R:=by rw[hr];split<;>omega
  have hqa:q.natAbs=Q:=by rw[hq];split<;>omega
  have fq:fit q:=x3 (x:=x) (by omega) hx;have fr:fit r:=x3 (x:=x) (by omega) hx;simp[cK,hne,h0];refine ba hl (by simp) ?_;simp;refine aa.akJ (.qs [0,1,2,3,4,5,7,8,9]<|.l 6 []<|.l 10 []<|.l 11 [2]<|.l 12 [3]<|.nil) ?_;simp;refine ba hm1 (by simp[bne]) ?_;simp;refine ba hm2 (by simp) ?_;by_cases hr0:r<0
  ·have ha:=pH r (y.natAbs:Int) fr (by simpa[fit]using hy);have hyn:¬(y.natAbs:Int)<0:=by omega
   simp[cK,hr0,bne];refine ba ha (by simp[cK,hr0]) ?_;simp[cK];by_cases hy1:y<0
   ·obtain⟨u1,u2⟩:=Er (x:=x) (y:=y) (q:=q+1) (r:=r+y.natAbs) h0 (by rw[hxq];grind) (by omega) (by omega);have hy2:¬(0:Int)≤y:=by omega
    simp[hy1,hy2];refine aa.akJ (.qs [0]<|.l 1 []<|.l 2 []<|.l 3 [2]<|.nil) ?_;simp;refine ba (lJ 1 (by omega) (by omega)) (by simp) ?_;simp[cK];refine ba (pH q 1 fq (rW (by simp))) (by simp[cK]) ?_;simp[cK];refine aa.akJ (.qs [0]<|.q 1 [2]<|.l 2 [2]<|.l 3 [3]<|.qs [4]<|.nil) ?_;simp[cK,u1,u2,h0];try omega
   ·obtain⟨u1,u2⟩:=Er (x:=x) (y:=y) (q:=q - 1) (r:=r+y.natAbs) h0 (by rw[hxq];grind) (by omega) (by omega);have hy2:0≤y:=by omega
    simp[hy1,hy2];refine aa.akJ (.qs [0]<|.l 1 []<|.l 2 []<|.l 3 [2]<|.nil) ?_;simp;refine ba (lJ 1 (by omega) (by omega)) (by simp) ?_;simp[cK];refine ba (Ge q 1 fq (rW (by simp))) (by simp[cK]) ?_;simp[cK];refine aa.akJ (.qs [0]<|.q 1 [2]<|.l 2 [2]<|.l 3 [3]<|.qs [4]<|.nil) ?_;simp[cK,u1,u2,h0];try omega
  ·obtain⟨u1,u2⟩:=Er (x:=x) (y:=y) (q:=q) (r:=r) h0 hxq (by omega) (by omega);simp[cK,hr0,bne];refine aa.akJ (.qs [0]<|.q 1 [2]<|.l 2 [2]<|.l 3 [3]<|.qs [4]<|.nil) ?_;simp[cK,u1,u2,h0];try omega
end Go.Proofs
namespace Go.Proofs
open Go.Sv Go Go.Pl
theorem wo{n:Nat}(h:wid 4294967296 n≤2):n<18446744073709551616:=by
 have:=nK (B:=4294967296) (by omega) n;have:=Nat.lt_of_lt_of_le this (amg (by omega) h);simpa using this
theorem Gy(m n:Nat)(hm:wid 4294967296 m≤2)(hn:wid 4294967296 n≤2) :
  aF Tryz.prog 164 [.ro ((bC 4294967296 m).map u32),.ro ((bC 4294967296 n).map u32)] (cK (am4 m n:Nat)):=by
 refine aj Tryz.func164 rfl (by simp) (fun C hC=>?_);have wm:=D2 (bC 4294967296 m) (cS (by omega) m) hm;have wn:=D2 (bC 4294967296 n) (cS (by omega) n) hn;rw[cr (by omega)]at wm wn;have hm':=wo hm;have hn':=wo hn;simp;refine ba wm (by simp) ?_;simp;refine ba wn (by simp) ?_;simp;refine aa.loop (ι:=Nat × Nat) (fun⟨x,y⟩=>⟨24,[(4,.ptr 0 0 0),(5,.val (.int .u64 x)),(6,.val (.int .u64 y))],[some ⟨2,[.agg [.val (.bool false),.val (.slice none 0 0)]],false⟩]⟩)
  (fun⟨x,y⟩=>x<18446744073709551616∧y<18446744073709551616∧am4 x y=am4 m n) (fun⟨x,y⟩=>y) (m,n) ?_ ?_ ?_
 ·exact⟨hm',hn',rfl⟩
 ·simp[aw,hC]
 ·rintro⟨x,y⟩ ⟨h1,h2,h3⟩;by_cases hy:0<y
  ·simp[hy];refine aa.akJ (.qs [0,1,2,3,4,5]<|.nil) ?_;simp(disch:=omega)[am7];refine⟨by omega,y,x % y,⟨h2,am3 (alk _ hy) h2,by rw[←h3,am5 x y,am6 y x,am5]⟩,alk _ hy,by simp[aw,hC]⟩
  ·obtain rfl:y=0:=by omega
   simp at h3;subst h3;have hmd:=j9 false [am4 m n % 4294967296,am4 m n / 4294967296] (by simp) (by simp;omega);simp[val]at hmd;generalize am4 m n=g at *;rw[show((g:Int) % 4294967296+4294967296*((g:Int) / 4294967296))=g by omega]at hmd;have e:(g:Int) / 4294967296 % 4294967296=(g:Int) / 4294967296:=by omega
   simp(disch:=omega)[gU,e];refine ba hmd (by simp) ?_;simp
theorem II(m n:Nat):am4 n (m % n)=am4 m n:=by rw[am5 m n,am6 n m,am5]
theorem L9(x y:Int)(hx:fit x)(hy:fit y):aF Tryz.prog 158 [cK x,cK y] (cK (ana x y:Nat)):=by
 refine aj Tryz.func158 rfl (by simp) (fun C hC=>?_);simp[cK];refine aa.akJ (.qs [0,1,2,3,4,5]<|.nil) ?_;simp;refine aa.loop (ι:=Nat × Nat) (fun⟨m,n⟩=>⟨39,[(4,.ptr 2 0 0),(5,.ro ((bC 4294967296 m).map u32)),(6,.ro ((bC 4294967296 n).map u32))],
   [some ⟨2,[.agg [.val (.bool (decide (x<0))),.ro ((bC 4294967296 x.natAbs).map u32)]],false⟩,some ⟨2,[.agg [.val (.bool (decide (y<0))),.ro ((bC 4294967296 y.natAbs).map u32)]],false⟩,some ⟨2,[.agg [.val (.bool false),.val (.slice none 0 0)]],false⟩]⟩)
  (fun⟨m,n⟩=>wid 4294967296 m≤1000000000000∧wid 4294967296 n≤1000000000000∧am4 m n=ana x y) (fun⟨m,n⟩=>n) (x.natAbs,y.natAbs) ?_ ?_ ?_
 ·exact⟨hx,hy,rfl⟩
 ·simp[aw,hC]
 ·rintro⟨m,n⟩ ⟨h1,h2,h3⟩;by_cases hn:n=0
  ·subst hn;simp at h3;subst h3;have hmd:=vF false _ h1;simp only[wid]at h1;simp[aZ];refine⟨by omega,?_⟩;refine ba hmd (by simp[amv]) ?_;simp[cK]
  ·have hl:0<(bC 4294967296 n).length:=List.length_pos_iff.2 fun h=>hn ((bR (by omega)).1 h);have hlong:=Dc m n hn (by omega) (by omega);have hr:=alk m (show 0<n by omega);have ht:=mi (bC 4294967296 (m % n)) (by
    have:=ch (B:=4294967296) (by omega) (am0 hr);simp only[wid]at this h2;omega)
   rw[xg (by omega)]at ht;have go:∀st',aw C st' ⟨39,[(4,.ptr 2 0 0),(5,.ro ((bC 4294967296 n).map u32)),(6,.ro ((bC 4294967296 (m % n)).map u32))],
     [some ⟨2,[.agg [.val (.bool (decide (x<0))),.ro ((bC 4294967296 x.natAbs).map u32)]],false⟩,some ⟨2,[.agg [.val (.bool (decide (y<0))),.ro ((bC 4294967296 y.natAbs).map u32)]],false⟩,some ⟨2,[.agg [.val (.bool false),.val (.slice none 0 0)]],false⟩]⟩→
     ∃m' n',(wid 4294967296 m'≤1000000000000∧wid 4294967296 n'≤1000000000000∧am4 m' n'=ana x y)∧n'<n∧aw C st' ⟨39,[(4,.ptr 2 0 0),(5,.ro ((bC 4294967296 m').map u32)),(6,.ro ((bC 4294967296 n').map u32))],
     [some ⟨2,[.agg [.val (.bool (decide (x<0))),.ro ((bC 4294967296 x.natAbs).map u32)]],false⟩,some ⟨2,[.agg [.val (.bool (decide (y<0))),.ro ((bC 4294967296 y.natAbs).map u32)]],false⟩,some ⟨2,[.agg [.val (.bool false),.val (.slice none 0 0)]],false⟩]⟩ :=
    fun st' hle=>⟨n,m % n,⟨h2,alJ (ch (by omega) (am0 hr)) h2,by rw[II];exact h3⟩,hr,hle⟩
   by_cases hm2:(bC 4294967296 m).length≤2
   ·by_cases hn2:(bC 4294967296 n).length≤2
    ·have hs:=Gy m n hm2 hn2;have hm2':((bC 4294967296 m).length:Int)≤2:=by omega
     have hn2':((bC 4294967296 n).length:Int)≤2:=by omega
     simp[hl,hm2',hn2'];refine ba hs (by simp) ?_;simp[cK,h3]
    ·have hm2':((bC 4294967296 m).length:Int)≤2:=by omega
     have hn2':¬((bC 4294967296 n).length:Int)≤2:=by omega
     simp[hl,hm2',hn2'];refine ba hlong (by simp) ?_;simp;refine ba ht (by simp) ?_;simp;exact go _ (by simp[aw,hC])
   ·have hm2':¬((bC 4294967296 m).length:Int)≤2:=by omega
    simp[hl,hm2'];refine ba hlong (by simp) ?_;simp;refine ba ht (by simp) ?_;simp;exact go _ (by simp[aw,hC])
end Go.Proofs
namespace Go.Proofs
open Go.Sv Go Go.Pl
def MJ(x:Int):Prop := -9223372036854775808≤x∧x≤9223372036854775807
instance (x:Int):Decidable (MJ x):=inferInstanceAs (Decidable (_∧_))
end Go.Proofs
namespace Go.Proofs
open Go.Sv Go Go.Pl
theorem yA(k:Nat)(A B:aJ):fK k (A++B)=(fK k A&&fK k B):=by
 induction A with
 | nil=>simp[fK]
 | cons x A ih=>cases x<;>simp[fK,ih,Bool.and_assoc]
theorem uN{C:Ctx}{M:aJ}{k n:Nat}{K:aJ→List Nat→SV→Prop}(l:List Nat)(b d:Nat){d':Int}(hd':d'=d)(hn:n=l.length)(hk:ax M k=some ⟨1,l.map u32,false⟩)(hl:l.length≤4398046511103)(hx:∀d∈l,d<4294967296)(hb:b<4294967296)(hd:d<4294967296)
  (hfx:k∉C.fx) (hno:∀xs:List Nat,fK k (aK M k (some ⟨1,xs.map u32,false⟩))=true) (hK:∀(l':List Nat) (J:aJ),(∀d∈l',d<4294967296)→l'.length≤l.length+1→val 4294967296 l'=val 4294967296 l*b+d→K (aK M k (some ⟨1,l'.map u32,false⟩)++J) [k] (.view k 0 l'.length)) :
  cU Tryz.prog C 157 [.view k 0 n,.val (.int .u32 b),.val (.int .u32 d')] M none K:=by
 subst hd' hn;refine ez Tryz.func157 rfl (by simp) [k] (by simpa using hfx) (by simp) (fun C' hC=>?_);have hkC:k∉C'.fx:=by rw[hC];simp
 simp(disch:=omega)[aN,gu];refine aa.loop (ι:=List Nat × Nat × Nat) (fun⟨o,i,c⟩=>⟨43,[(0,.view k 0 l.length),(1,.val (.int .u32 b)),(7,.val (.int .u64 c)),(13,.val (.int .i64 l.length)),(14,.val (.int .i64 i))],aK M k (some ⟨1,o.map u32,false⟩)⟩)
  (fun⟨o,i,c⟩=>o.length=l.length∧i≤l.length∧(∀d∈o,d<4294967296)∧c<4294967296∧o.drop i=l.drop i∧val 4294967296 (o.take i)+4294967296^i*c=val 4294967296 (l.take i)*b+d)
  (fun⟨o,i,c⟩=>l.length - i) (l,0,d) ?_ ?_ ?_
 ·exact⟨rfl,by omega,hx,hd,rfl,by simp[val]⟩
 ·simp[aw,l5 hk]
 ·rintro⟨o,i,c⟩ ⟨h1,h2,h3,h4,h5,h6⟩;have hk':=gz (M:=M) (k:=k) ⟨1,o.map u32,false⟩ hk;by_cases az:i<l.length
  ·have bo:=dO h3 (by omega) i;have ho:dg o i=dg l i:=rv h5;obtain⟨t,ht⟩:∃t,t=dg o i*b+c:=⟨_,rfl⟩;have hgv:dg o i*b≤4294967295*4294967295:=amK (by omega) (by omega);have hgv':(dg o i:Int)*b≤18446744065119617025:=by rw[←amN];omega
   have hgv0:(0:Int)≤(dg o i:Int)*b:=by rw[←amN];omega
   have e1:(dg o i:Int)*b+c=t:=by rw[ht];push_cast;rfl
   obtain⟨c',hc'⟩:∃c',c'=t / 4294967296:=⟨_,rfl⟩;obtain⟨lo,hlo⟩:∃lo,lo=t % 4294967296:=⟨_,rfl⟩;have e2:(t:Int) % 4294967296=lo:=by omega
   have e3:(t:Int) / 4294967296=c':=by omega
   have hlo2:lo<4294967296:=by omega
   have F:=j0 i h3 hlo2;have G:val 4294967296 ((o.set i lo).take (i+1))+4294967296^(i+1)*c'=val 4294967296 (l.take (i+1))*b+d:=by
    rw[dv _ (by omega),cO,amx,amz (by omega),dm,amb];simp only[val,amL,als];have e:=Nat.mod_add_div t 4294967296;rw[←hlo,←hc',ht,ho]at e;generalize 4294967296^i=P at *;grind
   have D:(o.set i lo).drop (i+1)=l.drop (i+1):=by rw[eJ];exact iN h5
   simp(disch:=omega)[aN,gu,az,hk',bn,gU,kH,e1,e2,e3, -List.map_set];repeat refine And.intro (by omega) ?_
   refine⟨o.set i lo,i+1,c',⟨by simpa using h1,by omega,F,by omega,D,G⟩,by omega,by simp[aw]⟩
  ·obtain rfl:i=l.length:=by omega
   rw[List.take_length,amv (by omega)]at h6;by_cases hc:0<c
   ·have q1:=fun x=>mo x hk';have q2:=fun x=>Hc (M:=aK M k (some ⟨1,o.map u32,false⟩)) (n:=M.length) x (by simp);have q3:=fun x y=>qx x y hk';have e:(c:Int) % 4294967296=c:=by omega
    simp(disch:=omega)[aN,hc,hk',gU,hkC,h1,q1,q2,q3,e,yA,hno];refine⟨by omega,?_⟩;have:=hK (o++[c]) [some ⟨1,[.val (.int .u32 c)],false⟩] (mw h3 h4) (by simp;omega) (by rw[cO,h1];simpa[val]using h6);simpa[h1]using this
   ·obtain rfl:c=0:=by omega
    simp(disch:=omega)[aN];have:=hK o [] h3 (by omega) (by simpa using h6);rw[h1]at this;simpa using this
end Go.Proofs

