/- A text of the prover's own. -/
import Derived.Test.YtnimjdcaajmfcaaGreatDoorUWa
set_option maxRecDepth 20000
set_option maxHeartbeats 8000000
namespace Go.Pl
theorem dg_take {l:List Nat} {n i:Nat} (h:i<n):dg (l.take n) i=dg l i:=by
 unfold dg;simp [List.getElem?_take,h]
theorem dg_drop' (l:List Nat) (n i:Nat):dg (l.drop n) i=dg l (n+i):=by
 unfold dg;simp [List.getElem?_drop]
theorem lt_take {B n:Nat} {l:List Nat} (h:∀d∈l,d<B):∀d∈l.take n,d<B:=fun d hd=>h d (List.mem_of_mem_take hd)
theorem lt_drop {B n:Nat} {l:List Nat} (h:∀d∈l,d<B):∀d∈l.drop n,d<B:=fun d hd=>h d (List.mem_of_mem_drop hd)
theorem long_seg {B j n:Nat} {us:List Nat} {V:Nat} (hB:2≤B) (hu:∀d∈us,d<B) (hl:j+n+1≤us.length) (hV:V<B^n) (h:val B us<V*B^(j+1)) :
  val B us=val B (us.take j)+B^j*val B ((us.drop j).take (n+1))∧val B ((us.drop j).take (n+1))<V*B∧((us.drop j).take (n+1)).length=n+1∧val B (us.drop (j+n+1))=0:=by
 have hp:0<B^j:=Nat.pow_pos (by omega)
 have e1:us=us.take j++((us.drop j).take (n+1)++us.drop (j+n+1)):=by
  have:us.drop (j+n+1)=(us.drop j).drop (n+1):=by rw [List.drop_drop,Nat.add_assoc]
  rw [this,List.take_append_drop,List.take_append_drop]
 have hlen:((us.drop j).take (n+1)).length=n+1:=by simp;omega
 have e2:val B us=val B (us.take j)+B^j*(val B ((us.drop j).take (n+1))+B^(n+1)*val B (us.drop (j+n+1))):=by
  conv=>lhs;rw [e1]
  rw [val_app,val_app,hlen,List.length_take,Nat.min_eq_left (by omega)]
 have hz:val B (us.drop (j+n+1))=0:=by
  rcases Nat.eq_zero_or_pos (val B (us.drop (j+n+1))) with h0 | h0
  ·exact h0
  ·exfalso
   have h1:B^j*(B^(n+1)*1)≤val B us:=by
    rw [e2]
    have:=Nat.mul_le_mul_left (B^j) (Nat.mul_le_mul_left (B^(n+1)) (show 1≤_ from h0))
    rw [Nat.mul_add];omega
   have h2:V*B^(j+1)<B^n*B^(j+1):=Nat.mul_lt_mul_of_pos_right hV (Nat.pow_pos (by omega))
   have h3:B^j*(B^(n+1)*1)=B^n*B^(j+1):=by grind
   omega
 rw [hz] at e2
 simp only [Nat.mul_zero,Nat.add_zero] at e2
 refine ⟨e2,?_,hlen,hz⟩
 rw [e2,Nat.pow_succ] at h
 have h4:B^j*val B ((us.drop j).take (n+1))<B^j*(V*B):=by
  have:V*(B^j*B)=B^j*(V*B):=by grind
  omega
 exact Nat.lt_of_mul_lt_mul_left h4
theorem val_top3 {B n:Nat} {S:List Nat} (h:S.length=n+3):val B S=((dg S (n+2)*B+dg S (n+1))*B+dg S n)*B^n+val B (S.take n):=by
 have e:S=S.take (n+3):=(List.take_of_length_le (by omega)).symm
 conv=>lhs;rw [e]
 rw [val_take',val_take',val_take']
 grind
theorem val_top2 {B n:Nat} {S:List Nat} (h:S.length=n+2):val B S=(dg S (n+1)*B+dg S n)*B^n+val B (S.take n):=by
 have e:S=S.take (n+2):=(List.take_of_length_le (by omega)).symm
 conv=>lhs;rw [e]
 rw [val_take',val_take']
 grind
theorem val_take_lt {B n:Nat} {S:List Nat} (h:∀d∈S,d<B) (hl:n≤S.length):val B (S.take n)<B^n:=by
 have:=val_lt (S.take n) (lt_take h)
 rwa [List.length_take,Nat.min_eq_left hl] at this
theorem guess_start {B K v1 v2 V0 top u2 U0 U V:Nat} (hV:V=(v1*B+v2)*K+V0) (hU:U=(top*B+u2)*K+U0) (hU0:U0<K) (hu2:u2<B) (hv1:0<v1):U / V≤top / v1:=by
 rw [Nat.le_div_iff_mul_le hv1]
 rcases Nat.eq_zero_or_pos V with h0 | h0
 ·rw [h0];simp
 have h1:U / V*V≤U:=Nat.div_mul_le_self U V
 have h2:U / V*(v1*B*K)≤U / V*V:=Nat.mul_le_mul_left _ (by rw [hV,Nat.add_mul];omega)
 have h3:U<(top+1)*(B*K):=by
  have:(top*B+u2+1)*K≤((top+1)*B)*K:=Nat.mul_le_mul_right K (by rw [Nat.add_mul];omega)
  rw [hU]
  have e:(top*B+u2+1)*K=(top*B+u2)*K+K:=by grind
  have e2:(top+1)*B*K=(top+1)*(B*K):=by grind
  omega
 have h4:U / V*v1*(B*K)<(top+1)*(B*K):=by
  have:U / V*v1*(B*K)=U / V*(v1*B*K):=by grind
  omega
 have:=Nat.lt_of_mul_lt_mul_right h4
 omega
theorem top_le {B K v1 v2 V0 u0 u1 u2 U0 U V:Nat} (hV:V=(v1*B+v2)*K+V0) (hU:U=((u0*B+u1)*B+u2)*K+U0) (hV0:V0<K) (hv2:v2<B) (h:U<V*B):u0≤v1:=by
 have h1:V<(v1+1)*(B*K):=by
  have:(v1*B+v2+1)*K≤((v1+1)*B)*K:=Nat.mul_le_mul_right K (by rw [Nat.add_mul];omega)
  have e:(v1*B+v2+1)*K=(v1*B+v2)*K+K:=by grind
  have e2:(v1+1)*B*K=(v1+1)*(B*K):=by grind
  omega
 have h2:u0*(B*K)*B≤U:=by
  have:U=u0*(B*K)*B+((u1*B+u2)*K+U0):=by rw [hU];grind
  omega
 have h3:V*B≤(v1+1)*(B*K)*B:=Nat.mul_le_mul_right B (Nat.le_of_lt h1)
 have h4:u0*(B*K*B)<(v1+1)*(B*K*B):=by
  have e1:u0*(B*K)*B=u0*(B*K*B):=by grind
  have e2:(v1+1)*(B*K)*B=(v1+1)*(B*K*B):=by grind
  omega
 have:=Nat.lt_of_mul_lt_mul_right h4
 omega
theorem dig_last {B n:Nat} (hB:2≤B) (hn:n≠0):dg (dig B n) ((dig B n).length - 1)≠0:=by
 have h:=trimL_dig hB n
 rcases snoc_cases (dig B n) with h0 | ⟨zs,z,h0⟩
 ·exact absurd ((dig_eq_nil hB).1 h0) hn
 ·rw [h0] at h ⊢
  have e:dg (zs++[z]) ((zs++[z]).length - 1)=z:=by unfold dg;simp
  rw [e]
  rintro rfl
  rw [trimL_zero] at h
  have:=trimL_le zs
  rw [h] at this
  simp at this
  omega
theorem top_up {B n t:Nat} {b:List Nat} (hb:∀d∈b,d<B) (hl:b.length=n+1) (hB:B=2^t*(B / 2^t)) (ht:2^t*dg b n<B):val B b*2^t<B^(n+1):=by
 have e:b=b.take (n+1):=(List.take_of_length_le (by omega)).symm
 have h1:=val_take_lt hb (show n≤b.length by omega)
 have h2:val B b=val B (b.take n)+B^n*dg b n:=by conv=>lhs;rw [e,val_take']
 have hp:0<2^t:=Nat.two_pow_pos t
 have h3:(dg b n+1)*2^t≤B:=by
  rw [hB] at ht ⊢
  have:=Nat.lt_of_mul_lt_mul_left ht
  rw [Nat.mul_comm]
  exact Nat.mul_le_mul_left _ this
 have h4:val B b<B^n*(dg b n+1):=by rw [h2,Nat.mul_add];omega
 have h5:val B b*2^t<B^n*(dg b n+1)*2^t:=Nat.mul_lt_mul_of_pos_right h4 hp
 have h6:B^n*(dg b n+1)*2^t≤B^n*B:=by rw [Nat.mul_assoc];exact Nat.mul_le_mul_left _ h3
 rw [Nat.pow_succ];omega
theorem val_ge {B n:Nat} {l:List Nat} (hl:l.length=n+1):dg l n*B^n≤val B l:=by
 have e:l=l.take (n+1):=(List.take_of_length_le (by omega)).symm
 have h2:val B l=val B (l.take n)+B^n*dg l n:=by conv=>lhs;rw [e,val_take']
 rw [h2,Nat.mul_comm];omega
theorem top_ge {B n x:Nat} {l:List Nat} (hB:0<B) (hl:l.length=n+1) (hd:∀d∈l,d<B) (h:x*B^n≤val B l):x≤dg l n:=by
 have e:l=l.take (n+1):=(List.take_of_length_le (by omega)).symm
 have h2:val B l=val B (l.take n)+B^n*dg l n:=by conv=>lhs;rw [e,val_take']
 have h1:=val_take_lt hd (show n≤l.length by omega)
 have h3:x*B^n<(dg l n+1)*B^n:=by
  have:(dg l n+1)*B^n=B^n*dg l n+B^n:=by rw [Nat.add_mul,Nat.mul_comm];omega
  omega
 have:=Nat.lt_of_mul_lt_mul_right h3
 omega
theorem long_facts {B j n:Nat} {us vs:List Nat} (hB:2≤B) (hu:∀d∈us,d<B) (hv:∀d∈vs,d<B) (hl:j+n+1≤us.length) (hvl:vs.length=n) (hn:2≤n) (h:val B us<val B vs*B^(j+1)) :
  ∃S,S=(us.drop j).take (n+1)∧S.length=n+1∧(∀d∈S,d<B)∧val B us=val B (us.take j)+B^j*val B S∧val B S<val B vs*B ∧
   val B S=((dg us (j+n)*B+dg us (j+n - 1))*B+dg us (j+n - 2))*B^(n - 2)+val B (S.take (n - 2))∧val B (S.take (n - 2))<B^(n - 2) ∧
   val B vs=(dg vs (n - 1)*B+dg vs (n - 2))*B^(n - 2)+val B (vs.take (n - 2))∧val B (vs.take (n - 2))<B^(n - 2)∧val B (us.drop (j+n+1))=0:=by
 have hV:val B vs<B^n:=by have:=val_lt vs hv;rwa [hvl] at this
 obtain ⟨h1,h2,h3,h4⟩:=long_seg hB hu hl hV h
 obtain ⟨k,rfl⟩:∃k,n=k+2:=⟨n - 2,by omega⟩
 refine ⟨_,rfl,h3,lt_take (lt_drop hu),h1,h2,?_,?_,?_,?_,h4⟩
 ·have:=val_top3 (B:=B) (n:=k) h3
  rw [dg_take (by omega),dg_take (by omega),dg_take (by omega),dg_drop',dg_drop',dg_drop'] at this
  exact this
 ·exact val_take_lt (lt_take (lt_drop hu)) (by rw [h3];omega)
 ·exact val_top2 hvl
 ·exact val_take_lt hv (by omega)
theorem val_low {B n:Nat} {us:List Nat} (h:val B us<B^n) (hl:n≤us.length):val B (us.take n)=val B us:=by
 have e:val B us=val B (us.take n)+B^n*val B (us.drop n):=by
  conv=>lhs;rw [←List.take_append_drop n us]
  rw [val_app,List.length_take,Nat.min_eq_left hl]
 rcases Nat.eq_zero_or_pos (val B (us.drop n)) with h0 | h0
 ·rw [e,h0];simp
 ·have:=Nat.mul_le_mul_left (B^n) (show 1≤_ from h0)
  omega
theorem long_end {m n P U Q:Nat} (hn:0<n) (hP:0<P) (h:m*P=U+n*P*Q) (hU:U<n*P):Q=m / n∧U / P=m % n:=by
 have e:U=P*(m - n*Q):=by
  have:n*P*Q=P*(n*Q):=by grind
  rw [Nat.mul_sub,Nat.mul_comm P m];omega
 have h1:U / P=m - n*Q:=by rw [e];exact Nat.mul_div_cancel_left _ hP
 have h2:m - n*Q<n:=by
  rw [e,Nat.mul_comm n P] at hU
  exact Nat.lt_of_mul_lt_mul_left hU
 have h3:n*Q≤m:=by
  have:n*Q*P≤m*P:=by rw [h,Nat.mul_right_comm];omega
  exact Nat.le_of_mul_le_mul_right this hP
 obtain ⟨r,rfl⟩:∃r,m=n*Q+r:=⟨m - n*Q,by omega⟩
 rw [Nat.add_sub_cancel_left] at h1 h2
 rw [h1,Nat.mul_add_div hn,Nat.mul_add_mod,Nat.div_eq_of_lt h2,Nat.mod_eq_of_lt h2]
 simp
def near1 (q g:Nat):Prop:=g=q∨g=q+1
theorem take_zero {U o g V:Nat} (hV:0<V) (h:near1 (U / V) g) (e:U=o+g*V):g=U / V∧o=U % V:=by
 have h1:=Nat.div_add_mod U V
 have h2:=Nat.mod_lt U hV
 rcases h with h | h
 ·refine ⟨h,?_⟩
  rw [Nat.mul_comm,←h] at h1;omega
 ·exfalso
  rw [h,Nat.add_mul,Nat.mul_comm (U / V)] at e
  omega
theorem take_one {U P o o' c g V:Nat} (hV:0<V) (hVP:V≤P) (h:near1 (U / V) g) (e:U+P=o+g*V) (ho:o<P) (e':o+V=o'+P*c) (ho':o'<P):g=U / V+1∧o'=U % V:=by
 have h1:=Nat.div_add_mod U V
 have h2:=Nat.mod_lt U hV
 rcases h with h | h
 ·exfalso
  rw [h,Nat.mul_comm] at e
  omega
 ·refine ⟨h,?_⟩
  rw [h,Nat.add_mul,Nat.mul_comm (U / V)] at e
  rcases Nat.lt_trichotomy c 1 with hc | hc | hc
  ·obtain rfl:c=0:=by omega
   simp at e';omega
  ·subst hc;omega
  ·have:=Nat.mul_le_mul_left P (show 2≤c from hc)
   omega
theorem long_next {B P m V L U q rest Q:Nat} (h:m=(L+P*U)+V*(P*B*Q)) (hq:U=V*q+rest):m=(L+P*rest)+V*(P*(q+B*Q)):=by
 subst hq;grind
end Go.Pl
namespace Go.Proofs
open Go.Sv Go Go.Pl
theorem long_ok (m n:Nat) (hn:n≠0) (hwm:wid 4294967296 m≤2000000000000) (hwn:wid 4294967296 n≤2000000000000) :
  PureF Tryz.prog 175 [.ro ((dig 4294967296 m).map u32),.ro ((dig 4294967296 n).map u32)] (.tup [.ro ((dig 4294967296 (m / n)).map u32),.ro ((dig 4294967296 (m % n)).map u32)]):=by
 refine pure_enter Tryz.func175 rfl (by simp) (fun C hC=>?_)
 have B2:2≤4294967296:=by omega
 have hc:=compare_ok m n (by omega) (by omega)
 have vm:=val_dig B2 m
 have vn:=val_dig B2 n
 have lm:=dig_lt B2 m
 have ln:=dig_lt B2 n
 have hne:dig 4294967296 n≠[]:=fun h=>hn ((dig_eq_nil B2).1 h)
 simp only [wid] at hwm hwn
 simp
 refine callF hc (by simp) ?_
 rcases Nat.lt_or_ge m n with hlt | hge
 ·have e:cmp3 m n = -1:=by simp [cmp3,hlt]
  rw [e]
  simp
  rw [Nat.div_eq_of_lt hlt,Nat.mod_eq_of_lt hlt]
  simp [dig_zero,List.take_of_length_le]
  omega
 ·have e:¬cmp3 m n<0:=by simp [cmp3];omega
  simp [e]
  have hlen:(dig 4294967296 n).length≤(dig 4294967296 m).length:=wid_mono B2 hge
  refine ⟨fun h1=>?_,fun h1=>?_⟩
  ·obtain ⟨d,hd⟩:=List.length_eq_one_iff.1 (by omega:(dig 4294967296 n).length=1)
   rw [hd] at vn ln
   simp [val] at vn ln
   subst vn
   rw [hd]
   simp
   refine CodeJ.draw (.qs [0,2,3]<|.q 4 [1000000]<|.l 1 [1000000]<|.l 5 [0,1000000]<|.qs [6,7,8,9,10]<|.nil) (by kernel_rfl) (by kernel_rfl) (by simp) ?_
   simp
   refine ⟨by omega,?_⟩
   refine short_here (dig 4294967296 m) [] d (by simp) (by omega) lm (by omega) (by simp [tget];rintro i e h;cases i<;>simp_all [tget]) (fun q h2 h3 h4=>?_)
   rw [vm] at h4 ⊢
   simp
   refine callF (trim_ok [m % d] (by simp)) (by simp) ?_
   simp
   have e1:dig 4294967296 (m / d)=trimL q:=by rw [←h4,dig_val B2 q h2]
   have e2:dig 4294967296 (m % d)=trimL [m % d]:=by
    have:=dig_val B2 [m % d] (by simp;have:=Nat.mod_lt m (show 0<d by omega);omega)
    simpa [val] using this
   rw [e1,e2]
   simp [trimL_le,←List.map_take,trimL_take]
  ·have hT0:0<dg (dig 4294967296 n) ((dig 4294967296 n).length - 1):=Nat.pos_of_ne_zero (dig_last B2 hn)
   generalize dig 4294967296 m=a at *
   generalize dig 4294967296 n=b at *
   have hb1:b.length≠1:=by omega
   have hb0:b.length≠0:=fun h=>hne (List.length_eq_zero_iff.1 h)
   have bT:=dg_lt ln (by omega) (b.length - 1)
   refine CodeJ.loop (ι:=Nat) (fun up=>⟨180,[(0,.ro (a.map u32)),(1,.ro (b.map u32)),(8,.val (.int .u64 up))],[]⟩) (fun up=>up<32∧2^up*dg b (b.length - 1)<4294967296) (fun up=>32 - up) 0 ?_ ?_ ?_
   ·simp;omega
   ·simp [leS,hC]
   ·rintro up ⟨hu1,hu2⟩
    obtain ⟨T,hT⟩:∃T,T=2^up*dg b (b.length - 1):=⟨_,rfl⟩
    have e1:(dg b (b.length - 1):Int)*2^up=T:=by rw [hT];push_cast;exact Int.mul_comm _ _
    have hmin:min up 32=up:=by omega
    rw [←hT] at hu2
    have e3:(T:Int) % 4294967296=T:=by omega
    by_cases hh:T<2147483648
    ·have e2:(T:Int) / 2147483648=0:=by omega
     have h31:up+1<32:=by
      rcases Nat.lt_or_ge (up+1) 32 with h | h
      ·exact h
      ·exfalso
       obtain rfl:up=31:=by omega
       omega
     simp (disch:=omega) [w64,lget_u32,u32w,wu64,wu32,e1,e2,e3,hmin]
     refine ⟨by omega,up+1,⟨h31,by rw [Nat.pow_succ,Nat.mul_right_comm,←hT];omega⟩,by omega,by simp [leS,hC]⟩
    ·have e2:(T:Int) / 2147483648=1:=by omega
     simp (disch:=omega) [w64,lget_u32,u32w,wu64,wu32,e1,e2,e3,hmin]
     refine ⟨by omega,?_⟩
     have hBu:4294967296=2^up*(4294967296 / 2^up):=by
      rw [Nat.mul_div_cancel']
      exact Nat.pow_dvd_pow 2 (show up≤32 by omega)
     have fa:val 4294967296 a*2^up<4294967296^(a.length+1):=by
      have h1:=val_lt a lm
      have h2:2^up<4294967296:=Nat.pow_lt_pow_right (by omega) (show up<32 by omega)
      rw [Nat.pow_succ]
      exact Nat.mul_lt_mul'' h1 h2
     have fb:val 4294967296 b*2^up<4294967296^b.length:=by
      have:=top_up (n:=b.length - 1) ln (by omega) hBu (by rw [←hT];omega)
      rwa [show b.length - 1+1=b.length by omega] at this
     refine left_here a up (a.length+1) (by push_cast;rfl) lm hu1 (by omega) (by omega) fa (fun us gu1 gu2 gu3=>?_)
     simp
     refine left_here b up b.length rfl ln hu1 (by omega) (by omega) fb (fun vs gv1 gv2 gv3=>?_)
     obtain ⟨c0,hc0⟩:∃c0,a.length+1=c0+b.length:=⟨a.length+1 - b.length,by omega⟩
     have ec0:(a.length:Int)+1 - b.length=c0:=by omega
     simp (disch:=omega) [w64,ec0]
     refine ⟨by omega,?_⟩
     obtain ⟨V,hV⟩:∃V,V=val 4294967296 vs:=⟨_,rfl⟩
     have hV1:V<4294967296^b.length:=by rw [hV,gv3];exact fb
     have hV0:0<V:=by rw [hV,gv3,vn];exact Nat.mul_pos (by omega) (Nat.two_pow_pos up)
     have hTV:T*4294967296^(b.length - 1)≤V:=by
      have:=val_ge (B:=4294967296) (n:=b.length - 1) (l:=b) (by omega)
      rw [hV,gv3,hT,Nat.mul_assoc,Nat.mul_comm]
      exact Nat.mul_le_mul_right _ this
     have hvt:2147483648≤dg vs (b.length - 1):=by
      have:=top_ge (by omega) (show vs.length=b.length - 1+1 by omega) gv2 (by rw [←hV];exact hTV)
      omega
     refine CodeJ.loop (ι:=List Nat × List Nat × Nat) (fun ⟨us,qs,c⟩=>⟨180,[(8,.val (.int .u64 up)),(9,.view 0 0 (a.length+1)),(10,.view 1 0 b.length),(11,.val (.int .i64 b.length)),(12,.view 2 0 c0),(13,.val (.int .i64 ((c:Int) - 1)))],
       [some ⟨1,us.map u32,false⟩,some ⟨1,vs.map u32,false⟩,some ⟨1,qs.map u32,false⟩]⟩)
      (fun ⟨us,qs,c⟩=>us.length=a.length+1∧qs.length=c0∧c≤c0∧(∀d∈us,d<4294967296)∧(∀d∈qs,d<4294967296)∧val 4294967296 us<V*4294967296^c∧m*2^up=val 4294967296 us+V*(4294967296^c*val 4294967296 (qs.drop c)))
      (fun ⟨us,qs,c⟩=>c) (us,List.replicate c0 0,c0) ?_ ?_ ?_
     ·refine ⟨gu1,by simp,by omega,gu2,by simp,?_,?_⟩
      ·rw [gu3]
       have h1:=val_lt a lm
       have h2:2^up≤2147483648:=Nat.pow_le_pow_right (by omega) (show up≤31 by omega)
       have h3:val 4294967296 a*2^up≤val 4294967296 a*2147483648:=Nat.mul_le_mul_left _ h2
       have h4:val 4294967296 a*2147483648<4294967296^a.length*2147483648:=Nat.mul_lt_mul_of_pos_right h1 (by omega)
       have h5:4294967296^a.length=4294967296^(b.length - 1)*4294967296^c0:=by rw [←Nat.pow_add];congr 1;omega
       have h6:2147483648*4294967296^(b.length - 1)≤V:=Nat.le_trans (Nat.mul_le_mul_right _ (by omega)) hTV
       have h7:=Nat.mul_le_mul_right (4294967296^c0) h6
       have h8:4294967296^a.length*2147483648=2147483648*4294967296^(b.length - 1)*4294967296^c0:=by rw [h5];grind
       omega
      ·rw [gu3,vm];simp [val]
     ·simp [leS,hC]
     ·rintro ⟨us,qs,c⟩ ⟨g1,g2,g3,g4,g5,g6,g7⟩
      cases c with
      | zero =>
       have hUV0:val 4294967296 us<V:=by simpa using g6
       have hUn:val 4294967296 (us.take b.length)=val 4294967296 us:=val_low (Nat.lt_trans hUV0 hV1) (by omega)
       have hend:=long_end (m:=m) (n:=n) (P:=2^up) (U:=val 4294967296 us) (Q:=val 4294967296 qs) (by omega) (Nat.two_pow_pos up) (by rw [g7,hV,gv3,vn];simp) (by rw [←vn,←gv3,←hV];exact hUV0)
       simp
       refine CodeJ.draw (.qs [0,2,3,4,5]<|.l 1 []<|.l 6 []<|.qs [7,8]<|.nil) (by kernel_rfl) (by kernel_rfl) (by simp) ?_
       simp
       refine ⟨by omega,?_⟩
       refine callF (trim_ok qs (by omega)) (by simp [List.take_of_length_le,g2]) ?_
       simp
       refine callF (right_ok (us.take b.length) up (lt_take g4) hu1 (by simp;omega)) (by simp [g1,List.map_take];omega) ?_
       rw [hUn,hend.2,←hend.1,dig_val B2 qs g5]
       simp
      | succ j =>
       simp (disch:=omega) [w64,lget_u32]
       refine CodeJ.draw (.qs [0,1,2,3,4,5,6,7,8,9,10,11,12,13,14,15,16,17]<|.nil) (by kernel_rfl) (by kernel_rfl) (by simp) ?_
       have hbu0:=dg_lt g4 (by omega) (j+b.length)
       have hbu1:=dg_lt g4 (by omega) (j+b.length - 1)
       simp (disch:=omega) [w64,lget_u32,wu64,bits_or]
       refine ⟨⟨by omega,by omega⟩,by omega,⟨by omega,by omega⟩,by omega,?_⟩
       refine CodeJ.draw (.qs [0,1,2,3,4,5,6,7,8,9,10,11,12,13,14,15,16,17]<|.nil) (by kernel_rfl) (by kernel_rfl) (by simp) ?_
       simp (disch:=omega) [w64,lget_u32,wu64,bits_or]
       have bv1:=dg_lt gv2 (by omega) (b.length - 1)
       have bv2:=dg_lt gv2 (by omega) (b.length - 2)
       have bu2:=dg_lt g4 (by omega) (j+b.length - 2)
       have nv1:¬(dg vs (b.length - 1):Int)=0:=by omega
       simp (disch:=omega) [w64,lget_u32,wu64,bits_or,nv1,Int.tdiv_eq_ediv_of_nonneg,Int.tmod_eq_emod_of_nonneg]
       repeat refine And.intro (by omega) ?_
       obtain ⟨S,hS,hSl,hSd,hval,hUV,hSt,hS0,hVt,hV00,hRz⟩:=long_facts B2 g4 gv2 (show j+b.length+1≤us.length by omega) gv1 (by omega) (by rw [←hV];exact g6)
       rw [←hV] at hUV hVt
       obtain ⟨U,hU⟩:∃U,U=val 4294967296 S:=⟨_,rfl⟩
       rw [←hU] at hval hUV hSt
       obtain ⟨top,htop⟩:∃top,top=dg us (j+b.length)*4294967296+dg us (j+b.length - 1):=⟨_,rfl⟩
       obtain ⟨v1,hv1⟩:∃v1,v1=dg vs (b.length - 1):=⟨_,rfl⟩
       obtain ⟨v2,hv2⟩:∃v2,v2=dg vs (b.length - 2):=⟨_,rfl⟩
       obtain ⟨u2,hu2'⟩:∃u2,u2=dg us (j+b.length - 2):=⟨_,rfl⟩
       have hul:dg us (j+b.length)≤dg vs (b.length - 1):=top_le hVt hSt hV00 bv2 hUV
       have et:(dg us (j+b.length):Int)*4294967296+dg us (j+b.length - 1)=top:=by omega
       rw [←htop,←hu2'] at hSt
       rw [←hv1,←hv2] at hVt
       have hv10:0<v1:=by omega
       have htop2:top<(v1+1)*4294967296:=by rw [Nat.add_mul];omega
       have q0:U / V≤top / v1:=guess_start hVt hSt hS0 (by omega) hv10
       have qB:U / V<4294967296:=by rw [Nat.div_lt_iff_lt_mul hV0,Nat.mul_comm];exact hUV
       have g0:top / v1≤4294967297:=by
        have:top / v1<4294967298:=by
         rw [Nat.div_lt_iff_lt_mul hv10];omega
        omega
       have ed:(top:Int) / v1=((top / v1:Nat):Int):=by simp
       have ew:IntKind.u64.wrap ((top:Int) / v1)=(top:Int) / v1:=by
        rw [ed]
        generalize top / v1=z at g0
        rw [wu64];omega
       have near:∀g r,g*v1+r=top→U / V≤g→g<4294967296→g*v2≤r*4294967296+u2→near1 (U / V) g:=fun g r h1 h2 h3 h4 =>
        guess_near rfl hV0 h2 (guess_end hVt hSt hV00 hv10 (by omega) h1 h4 (by omega))
       refine CodeJ.cut (fun e st'=>e=.exit 4∧∃g:Nat,near1 (U / V) g∧g<4294967296∧leS C st' ⟨180,[(8,.val (.int .u64 up)),(9,.view 0 0 (a.length+1)),(10,.view 1 0 b.length),(11,.val (.int .i64 b.length)),(12,.view 2 0 c0),(13,.val (.int .i64 j)),(15,.val (.int .u64 g))],
        [some ⟨1,us.map u32,false⟩,some ⟨1,vs.map u32,false⟩,some ⟨1,qs.map u32,false⟩]⟩) ?_ ?_
       ·refine CodeJ.loop (ι:=Nat × Nat) (fun ⟨g,r⟩=>⟨180,[(8,.val (.int .u64 up)),(9,.view 0 0 (a.length+1)),(10,.view 1 0 b.length),(11,.val (.int .i64 b.length)),(12,.view 2 0 c0),(13,.val (.int .i64 j)),(15,.val (.int .u64 g)),(16,.val (.int .u64 r))],
          [some ⟨1,us.map u32,false⟩,some ⟨1,vs.map u32,false⟩,some ⟨1,qs.map u32,false⟩]⟩)
         (fun ⟨g,r⟩=>g*v1+r=top∧U / V≤g∧g≤4294967297∧r<4294967296) (fun ⟨g,r⟩=>g) (top / v1,top % v1) ?_ ?_ ?_
        ·refine ⟨?_,q0,g0,?_⟩
         ·have:=Nat.div_add_mod top v1;rw [Nat.mul_comm] at this;exact this
         ·have:=Nat.mod_lt top hv10;omega
        ·simp [leS,hC,et,ew,←hv1]
        ·rintro ⟨g,r⟩ ⟨k1,k2,k3,k4⟩
         have body:∀g1,g=g1+1→U / V<g→(g1*v1+(r+v1)=top∧U / V≤g1∧g1≤4294967297)∧(4294967296≤r+v1→near1 (U / V) g1∧g1<4294967296):=by
          intro g1 hg1 hlt
          subst hg1
          have e:g1*v1+(r+v1)=top:=by rw [←k1,Nat.add_mul];omega
          refine ⟨⟨e,by omega,by omega⟩,fun hr=>?_⟩
          have hg2:g1<4294967296:=by
           have:g1*v1<4294967296*v1:=by rw [Nat.add_mul] at htop2;omega
           exact Nat.lt_of_mul_lt_mul_right this
          refine ⟨near g1 (r+v1) e (by omega) hg2 ?_,hg2⟩
          have h1:g1*v2≤4294967296*4294967296:=Nat.mul_le_mul (by omega) (by omega)
          have h2:=Nat.mul_le_mul_right 4294967296 hr
          omega
         simp (disch:=omega)
         refine CodeJ.draw (.qs [0,1,2,3,4,5,6,7,8,9,10,11,12,13,14,15,16,17,18,19,20,21,22,23,24]<|.nil) (by kernel_rfl) (by kernel_rfl) (by simp) ?_
         by_cases hA:4294967296≤g
         ·obtain ⟨g1,rfl⟩:∃g1,g=g1+1:=⟨g - 1,by omega⟩
          have hA':0<((g1:Int)+1) / 4294967296:=by omega
          obtain ⟨⟨b1,b2,b3⟩,b4⟩:=body g1 rfl (by omega)
          by_cases hr:4294967296≤r+v1
          ·have hr':0<((r:Int)+v1) / 4294967296:=by omega
           simp (disch:=omega) [w64,wu64,lget_u32,hA',hr',←hv1]
           refine ⟨by omega,by omega,g1,(b4 hr).1,(b4 hr).2,by simp [leS,hC]⟩
          ·have hr':¬0<((r:Int)+v1) / 4294967296:=by omega
           simp (disch:=omega) [w64,wu64,lget_u32,hA',hr',←hv1]
           refine ⟨by omega,by omega,g1,r+v1,⟨b1,b2,b3,by omega⟩,by omega,by simp [leS,hC]⟩
         ·have hA':¬0<(g:Int) / 4294967296:=by omega
          have hgv:g*v2≤4294967295*4294967295:=Nat.mul_le_mul (by omega) (by omega)
          have hgv':(g:Int)*v2≤18446744065119617025:=by rw [←Int.natCast_mul];omega
          have hgv0:(0:Int)≤(g:Int)*v2:=by rw [←Int.natCast_mul];omega
          by_cases hB:r*4294967296+u2<g*v2
          ·have hBI:(r:Int)*4294967296+u2<(g:Int)*v2:=by rw [←Int.natCast_mul];omega
           have hql:U / V<g:=guess_dec hVt hSt hS0 (Nat.div_mul_le_self U V) k1 hB
           have hg0:0<g:=Nat.lt_of_le_of_lt (Nat.zero_le _) hql
           obtain ⟨g1,rfl⟩:∃g1,g=g1+1:=⟨g - 1,by omega⟩
           obtain ⟨⟨b1,b2,b3⟩,b4⟩:=body g1 rfl hql
           have hA2:¬0<((g1:Int)+1) / 4294967296:=by omega
           have hcast:((g1+1:Nat):Int)*v2=((g1:Int)+1)*v2:=by push_cast;rfl
           rw [hcast] at hgv' hgv0
           have hB':=hBI
           rw [hcast] at hB'
           by_cases hr:4294967296≤r+v1
           ·have hr':0<((r:Int)+v1) / 4294967296:=by omega
            simp (disch:=omega) [w64,wu64,lget_u32,bits_or,hA2,hB',hr',←hv1,←hv2,←hu2']
            refine ⟨by omega,by omega,by omega,by omega,by omega,by omega,g1,(b4 hr).1,(b4 hr).2,by simp [leS,hC]⟩
           ·have hr':¬0<((r:Int)+v1) / 4294967296:=by omega
            simp (disch:=omega) [w64,wu64,lget_u32,bits_or,hA2,hB',hr',←hv1,←hv2,←hu2']
            refine ⟨by omega,by omega,by omega,by omega,by omega,by omega,g1,r+v1,⟨b1,b2,b3,by omega⟩,by omega,by simp [leS,hC]⟩
          ·have hB':¬(r:Int)*4294967296+u2<(g:Int)*v2:=by rw [←Int.natCast_mul];omega
           simp (disch:=omega) [w64,wu64,lget_u32,bits_or,hA',hB',←hv1,←hv2,←hu2']
           refine ⟨by omega,by omega,by omega,by omega,g,near g r k1 k2 (by omega) (by omega),by omega,by simp [leS,hC]⟩
       ·rintro e st' ⟨rfl,g,hg,hgB,hle⟩
        refine ⟨_,hle,?_⟩
        simp (disch:=omega) [w64]
        refine ⟨by omega,?_⟩
        have husS:us=us.take j++(S++us.drop (j+b.length+1)):=by
         have:us.drop (j+b.length+1)=(us.drop j).drop (b.length+1):=by rw [List.drop_drop,Nat.add_assoc]
         rw [hS,this,List.take_append_drop,List.take_append_drop]
        have hVP:V≤4294967296^S.length:=by
         rw [hSl,Nat.pow_succ];omega
        have fin:∀o',o'.length=S.length→(∀d∈o',d<4294967296)→val 4294967296 o'=U % V →
          (us.take j++(o'++us.drop (j+b.length+1))).length=a.length+1∧(qs.set j (U / V)).length=c0∧j≤c0∧(∀d∈us.take j++(o'++us.drop (j+b.length+1)),d<4294967296)∧(∀d∈qs.set j (U / V),d<4294967296) ∧
          val 4294967296 (us.take j++(o'++us.drop (j+b.length+1)))<V*4294967296^j∧m*2^up=val 4294967296 (us.take j++(o'++us.drop (j+b.length+1)))+V*(4294967296^j*val 4294967296 ((qs.set j (U / V)).drop j)):=by
         intro o' h1 h2 h3
         have hv:val 4294967296 (us.take j++(o'++us.drop (j+b.length+1)))=val 4294967296 (us.take j)+4294967296^j*(U % V):=by
          rw [val_app,val_app,hRz,h3,List.length_take,Nat.min_eq_left (by omega)];simp
         have hL:=val_take_lt g4 (show j≤us.length by omega)
         have hr:=Nat.mod_lt U hV0
         refine ⟨by simp;omega,by simpa using g2,by omega,?_,lt_set _ g5 qB,?_,?_⟩
         ·intro d hd
          rcases List.mem_append.1 hd with hd | hd
          ·exact lt_take g4 d hd
          ·rcases List.mem_append.1 hd with hd | hd
           ·exact h2 d hd
           ·exact lt_drop g4 d hd
         ·rw [hv]
          have:=Nat.mul_le_mul_left (4294967296^j) (show U % V+1≤V from hr)
          rw [Nat.mul_add,Nat.mul_one,Nat.mul_comm (4294967296^j) V] at this
          omega
         ·rw [hv,val_drop _ (qs.set j (U / V)),dg_set _ (by omega),if_pos rfl,drop_set_succ]
          rw [hval,Nat.pow_succ] at g7
          exact long_next g7 (Nat.div_add_mod U V).symm
        refine takeAway_here ((us.take j).map u32) ((us.drop (j+b.length+1)).map u32) S vs g ?_ (by simp [tget]) (by omega) (by simp;omega) (by omega) gv1.symm hSd gv2 hgB (by omega) (by omega) (fun o bw ho1 ho2 ho3 ho4=>?_)
        ·simp only [tget]
         rw [←List.map_append,←List.map_append,←husS]
        ·rw [←hU,←hV] at ho4
         by_cases hbw:0<bw
         ·obtain rfl:bw=1:=by omega
          simp (disch:=omega) [w64,wu64]
          refine ⟨by omega,?_⟩
          refine giveBack_here ((us.take j).map u32) ((us.drop (j+b.length+1)).map u32) o vs ?_ (by simp [tget]) (by omega) (by simp;omega) (by omega) gv1.symm ho2 gv2 (by omega) (by omega) (fun o' c1 hp1 hp2 hp3=>?_)
          ·simp [tget]
          ·rw [←hV,ho1] at hp3
           obtain ⟨f1,f2⟩:=take_one hV0 hVP hg (by simpa using ho4) (by rw [←ho1];exact val_lt o ho2) hp3 (by rw [←ho1,←hp1];exact val_lt o' hp2)
           obtain ⟨G1,G2,G3,G4,G5,G6,G7⟩:=fin o' (by omega) hp2 f2
           generalize U / V=q at *
           subst f1
           have eq1:(q:Int) % 4294967296=q:=by omega
           simp (disch:=omega) [w64,wu64,u32w,lget_u32,eq1]
           refine ⟨by omega,by omega,_,qs.set j q,j,⟨G1,G2,G3,G4,G5,G6,G7⟩,by omega,by simp [leS,hC,lset_eq]⟩
         ·obtain rfl:bw=0:=by omega
          obtain ⟨f1,f2⟩:=take_zero hV0 hg (by simpa using ho4)
          obtain ⟨G1,G2,G3,G4,G5,G6,G7⟩:=fin o (by omega) ho2 f2
          generalize U / V=q at *
          subst f1
          have eq1:(g:Int) % 4294967296=g:=by omega
          simp (disch:=omega) [w64,wu64,u32w,lget_u32,eq1]
          refine ⟨by omega,by omega,_,qs.set j g,j,⟨G1,G2,G3,G4,G5,G6,G7⟩,by omega,by simp [leS,hC,lset_eq]⟩
end Go.Proofs
namespace Go.Proofs
open Go.Sv Go Go.Pl
theorem eucl {x y q r:Int} (hy:y≠0) (h:x=r+y*q) (h0:0≤r) (h1:r<y.natAbs):x / y=q∧x % y=r:=by
 subst h
 rw [Int.add_mul_ediv_left _ _ hy,Int.add_mul_emod_self_left]
 rcases Int.lt_or_gt_of_ne hy with h | h
 ·have e1:r / y=0:=by
   rw [show y = -(-y) by omega,Int.ediv_neg,Int.ediv_eq_zero_of_lt h0 (by omega)];rfl
  have e2:r % y=r:=by
   rw [show y = -(-y) by omega,Int.emod_neg,Int.emod_eq_of_lt h0 (by omega)]
  rw [e1,e2];simp
 ·rw [Int.ediv_eq_zero_of_lt h0 (by omega),Int.emod_eq_of_lt h0 (by omega)];simp
theorem fit_le {x y:Int} (h:y.natAbs≤x.natAbs) (hx:fit x):fit y:=Nat.le_trans (wid_mono (by omega) h) hx
theorem fit_small {x:Int} (h:x.natAbs<4294967296^3):fit x:=Nat.le_trans (wid_le (by omega) h) (by omega)
theorem made_dig (b:Bool) (n:Nat) (h:wid 4294967296 n≤1000000000000):PureF Tryz.prog 136 [.val (.bool b),.ro ((dig 4294967296 n).map u32)] (zsv (if b=true then -(n:Int) else (n:Int))):=by
 have:=made_ok b (dig 4294967296 n) (by simp only [wid] at h;omega) (dig_lt (by omega) n)
 rwa [val_dig (by omega)] at this
theorem divmod_ok (x y:Int) (hx:fit x) (hy:fit y) :
  PureF Tryz.prog 134 [zsv x,zsv y] (.tup [zsv (x / y),zsv (if y=0 then 0 else x % y),.val (.bool (decide (y≠0)))]):=by
 refine pure_enter Tryz.func134 rfl (by simp) (fun C hC=>?_)
 by_cases h0:y=0
 ·subst h0
  simp [zsv,dig_zero]
 ·have hy0:y.natAbs≠0:=by omega
  have hne:¬(dig 4294967296 y.natAbs)=[]:=fun h=>hy0 ((dig_eq_nil (by omega)).1 h)
  have hq1:x.natAbs / y.natAbs≤x.natAbs:=Nat.div_le_self _ _
  have hr1:x.natAbs % y.natAbs≤x.natAbs:=Nat.mod_le _ _
  have hr2:=Nat.mod_lt x.natAbs (show 0<y.natAbs by omega)
  have hdm:=Nat.div_add_mod x.natAbs y.natAbs
  have hl:=long_ok x.natAbs y.natAbs hy0 (Nat.le_trans hx (by omega)) (Nat.le_trans hy (by omega))
  generalize x.natAbs / y.natAbs=Q at *
  generalize x.natAbs % y.natAbs=R at *
  have hm1:=made_dig (decide (x<0) != decide (y<0)) Q (Nat.le_trans (wid_mono (by omega) hq1) hx)
  have hm2:=made_dig (decide (x<0)) R (Nat.le_trans (wid_mono (by omega) hr1) hx)
  obtain ⟨q,hq⟩:∃q,q=(if (decide (x<0) != decide (y<0))=true then -(Q:Int) else (Q:Int)):=⟨_,rfl⟩
  obtain ⟨r,hr⟩:∃r,r=(if decide (x<0)=true then -(R:Int) else (R:Int)):=⟨_,rfl⟩
  rw [←hq] at hm1
  rw [←hr] at hm2
  have hxq:x=r+y*q:=by
   have hdm':(y.natAbs:Int)*Q+R=x.natAbs:=by rw [←Int.natCast_mul,←Int.natCast_add,hdm]
   by_cases h1:x<0<;>by_cases h2:y<0
   ·have e1:(x.natAbs:Int) = -x:=by omega
    have e2:(y.natAbs:Int) = -y:=by omega
    rw [e1,e2] at hdm';simp [h1,h2] at hq hr;subst hq hr;grind
   ·have e1:(x.natAbs:Int) = -x:=by omega
    have e2:(y.natAbs:Int)=y:=by omega
    rw [e1,e2] at hdm';simp [h1,h2] at hq hr;subst hq hr;grind
   ·have e1:(x.natAbs:Int)=x:=by omega
    have e2:(y.natAbs:Int) = -y:=by omega
    rw [e1,e2] at hdm';simp [h1,h2] at hq hr;subst hq hr;grind
   ·have e1:(x.natAbs:Int)=x:=by omega
    have e2:(y.natAbs:Int)=y:=by omega
    rw [e1,e2] at hdm';simp [h1,h2] at hq hr;subst hq hr;grind
  have hra:r.natAbs=R:=by rw [hr];split<;>omega
  have hqa:q.natAbs=Q:=by rw [hq];split<;>omega
  have fq:fit q:=fit_le (x:=x) (by omega) hx
  have fr:fit r:=fit_le (x:=x) (by omega) hx
  simp [zsv,hne,h0]
  refine callF hl (by simp) ?_
  simp
  refine CodeJ.draw (.qs [0,1,2,3,4,5,7,8,9]<|.l 6 []<|.l 10 []<|.l 11 [2]<|.l 12 [3]<|.nil) (by kernel_rfl) (by kernel_rfl) (by simp) ?_
  simp
  refine callF hm1 (by simp [bne]) ?_
  simp
  refine callF hm2 (by simp) ?_
  by_cases hr0:r<0
  ·have ha:=add_ok r (y.natAbs:Int) fr (by simpa [fit] using hy)
   have hyn:¬(y.natAbs:Int)<0:=by omega
   simp [zsv,hr0,bne]
   refine callF ha (by simp [zsv,hr0]) ?_
   simp [zsv]
   by_cases hy1:y<0
   ·obtain ⟨u1,u2⟩:=eucl (x:=x) (y:=y) (q:=q+1) (r:=r+y.natAbs) h0 (by rw [hxq];grind) (by omega) (by omega)
    have hy2:¬(0:Int)≤y:=by omega
    simp [hy1,hy2]
    refine CodeJ.draw (.qs [0]<|.l 1 []<|.l 2 []<|.l 3 [2]<|.nil) (by kernel_rfl) (by kernel_rfl) (by simp) ?_
    simp
    refine callF (of_ok 1 (by omega) (by omega)) (by simp) ?_
    simp [zsv]
    refine callF (add_ok q 1 fq (fit_small (by simp))) (by simp [zsv]) ?_
    simp [zsv]
    refine CodeJ.draw (.qs [0]<|.q 1 [2]<|.l 2 [2]<|.l 3 [3]<|.qs [4]<|.nil) (by kernel_rfl) (by kernel_rfl) (by simp) ?_
    simp [zsv,u1,u2,h0];try omega
   ·obtain ⟨u1,u2⟩:=eucl (x:=x) (y:=y) (q:=q - 1) (r:=r+y.natAbs) h0 (by rw [hxq];grind) (by omega) (by omega)
    have hy2:0≤y:=by omega
    simp [hy1,hy2]
    refine CodeJ.draw (.qs [0]<|.l 1 []<|.l 2 []<|.l 3 [2]<|.nil) (by kernel_rfl) (by kernel_rfl) (by simp) ?_
    simp
    refine callF (of_ok 1 (by omega) (by omega)) (by simp) ?_
    simp [zsv]
    refine callF (sub_ok q 1 fq (fit_small (by simp))) (by simp [zsv]) ?_
    simp [zsv]
    refine CodeJ.draw (.qs [0]<|.q 1 [2]<|.l 2 [2]<|.l 3 [3]<|.qs [4]<|.nil) (by kernel_rfl) (by kernel_rfl) (by simp) ?_
    simp [zsv,u1,u2,h0];try omega
  ·obtain ⟨u1,u2⟩:=eucl (x:=x) (y:=y) (q:=q) (r:=r) h0 hxq (by omega) (by omega)
   simp [zsv,hr0,bne]
   refine CodeJ.draw (.qs [0]<|.q 1 [2]<|.l 2 [2]<|.l 3 [3]<|.qs [4]<|.nil) (by kernel_rfl) (by kernel_rfl) (by simp) ?_
   simp [zsv,u1,u2,h0];try omega
end Go.Proofs
namespace Go.Proofs
open Go.Sv Go Go.Pl
theorem lt_of_wid2 {n:Nat} (h:wid 4294967296 n≤2):n<18446744073709551616:=by
 have:=lt_wid (B:=4294967296) (by omega) n
 have:=Nat.lt_of_lt_of_le this (Nat.pow_le_pow_right (by omega) h)
 simpa using this
theorem small_ok (m n:Nat) (hm:wid 4294967296 m≤2) (hn:wid 4294967296 n≤2) :
  PureF Tryz.prog 174 [.ro ((dig 4294967296 m).map u32),.ro ((dig 4294967296 n).map u32)] (zsv (Nat.gcd m n:Nat)):=by
 refine pure_enter Tryz.func174 rfl (by simp) (fun C hC=>?_)
 have wm:=word_ok (dig 4294967296 m) (dig_lt (by omega) m) hm
 have wn:=word_ok (dig 4294967296 n) (dig_lt (by omega) n) hn
 rw [val_dig (by omega)] at wm wn
 have hm':=lt_of_wid2 hm
 have hn':=lt_of_wid2 hn
 simp
 refine callF wm (by simp) ?_
 simp
 refine callF wn (by simp) ?_
 simp
 refine CodeJ.loop (ι:=Nat × Nat) (fun ⟨x,y⟩=>⟨24,[(4,.ptr 0 0 0),(5,.val (.int .u64 x)),(6,.val (.int .u64 y))],[some ⟨2,[.agg [.val (.bool false),.val (.slice none 0 0)]],false⟩]⟩)
  (fun ⟨x,y⟩=>x<18446744073709551616∧y<18446744073709551616∧Nat.gcd x y=Nat.gcd m n) (fun ⟨x,y⟩=>y) (m,n) ?_ ?_ ?_
 ·exact ⟨hm',hn',rfl⟩
 ·simp [leS,hC]
 ·rintro ⟨x,y⟩ ⟨h1,h2,h3⟩
  by_cases hy:0<y
  ·simp [hy]
   refine CodeJ.draw (.qs [0,1,2,3,4,5]<|.nil) (by kernel_rfl) (by kernel_rfl) (by simp) ?_
   simp (disch:=omega) [Int.tmod_eq_emod_of_nonneg]
   refine ⟨by omega,y,x % y,⟨h2,Nat.lt_trans (Nat.mod_lt _ hy) h2,by rw [←h3,Nat.gcd_comm x y,Nat.gcd_rec y x,Nat.gcd_comm]⟩,Nat.mod_lt _ hy,by simp [leS,hC]⟩
  ·obtain rfl:y=0:=by omega
   simp at h3
   subst h3
   have hmd:=made_ok false [Nat.gcd m n % 4294967296,Nat.gcd m n / 4294967296] (by simp) (by simp;omega)
   simp [val] at hmd
   generalize Nat.gcd m n=g at *
   rw [show ((g:Int) % 4294967296+4294967296*((g:Int) / 4294967296))=g by omega] at hmd
   have e:(g:Int) / 4294967296 % 4294967296=(g:Int) / 4294967296:=by omega
   simp (disch:=omega) [u32w,e]
   refine callF hmd (by simp) ?_
   simp
theorem gcd_step (m n:Nat):Nat.gcd n (m % n)=Nat.gcd m n:=by rw [Nat.gcd_comm m n,Nat.gcd_rec n m,Nat.gcd_comm]
theorem gcd_ok (x y:Int) (hx:fit x) (hy:fit y):PureF Tryz.prog 132 [zsv x,zsv y] (zsv (Int.gcd x y:Nat)):=by
 refine pure_enter Tryz.func132 rfl (by simp) (fun C hC=>?_)
 simp [zsv]
 refine CodeJ.draw (.qs [0,1,2,3,4,5]<|.nil) (by kernel_rfl) (by kernel_rfl) (by simp) ?_
 simp
 refine CodeJ.loop (ι:=Nat × Nat) (fun ⟨m,n⟩=>⟨39,[(4,.ptr 2 0 0),(5,.ro ((dig 4294967296 m).map u32)),(6,.ro ((dig 4294967296 n).map u32))],
   [some ⟨2,[.agg [.val (.bool (decide (x<0))),.ro ((dig 4294967296 x.natAbs).map u32)]],false⟩,some ⟨2,[.agg [.val (.bool (decide (y<0))),.ro ((dig 4294967296 y.natAbs).map u32)]],false⟩,some ⟨2,[.agg [.val (.bool false),.val (.slice none 0 0)]],false⟩]⟩)
  (fun ⟨m,n⟩=>wid 4294967296 m≤1000000000000∧wid 4294967296 n≤1000000000000∧Nat.gcd m n=Int.gcd x y) (fun ⟨m,n⟩=>n) (x.natAbs,y.natAbs) ?_ ?_ ?_
 ·exact ⟨hx,hy,rfl⟩
 ·simp [leS,hC]
 ·rintro ⟨m,n⟩ ⟨h1,h2,h3⟩
  by_cases hn:n=0
  ·subst hn
   simp at h3
   subst h3
   have hmd:=made_dig false _ h1
   simp only [wid] at h1
   simp [dig_zero]
   refine ⟨by omega,?_⟩
   refine callF hmd (by simp [List.take_of_length_le]) ?_
   simp [zsv]
  ·have hl:0<(dig 4294967296 n).length:=List.length_pos_iff.2 fun h=>hn ((dig_eq_nil (by omega)).1 h)
   have hlong:=long_ok m n hn (by omega) (by omega)
   have hr:=Nat.mod_lt m (show 0<n by omega)
   have ht:=trim_ok (dig 4294967296 (m % n)) (by
    have:=wid_mono (B:=4294967296) (by omega) (Nat.le_of_lt hr)
    simp only [wid] at this h2;omega)
   rw [trimL_dig (by omega)] at ht
   have go:∀st',leS C st' ⟨39,[(4,.ptr 2 0 0),(5,.ro ((dig 4294967296 n).map u32)),(6,.ro ((dig 4294967296 (m % n)).map u32))],
     [some ⟨2,[.agg [.val (.bool (decide (x<0))),.ro ((dig 4294967296 x.natAbs).map u32)]],false⟩,some ⟨2,[.agg [.val (.bool (decide (y<0))),.ro ((dig 4294967296 y.natAbs).map u32)]],false⟩,some ⟨2,[.agg [.val (.bool false),.val (.slice none 0 0)]],false⟩]⟩→
     ∃m' n',(wid 4294967296 m'≤1000000000000∧wid 4294967296 n'≤1000000000000∧Nat.gcd m' n'=Int.gcd x y)∧n'<n∧leS C st' ⟨39,[(4,.ptr 2 0 0),(5,.ro ((dig 4294967296 m').map u32)),(6,.ro ((dig 4294967296 n').map u32))],
     [some ⟨2,[.agg [.val (.bool (decide (x<0))),.ro ((dig 4294967296 x.natAbs).map u32)]],false⟩,some ⟨2,[.agg [.val (.bool (decide (y<0))),.ro ((dig 4294967296 y.natAbs).map u32)]],false⟩,some ⟨2,[.agg [.val (.bool false),.val (.slice none 0 0)]],false⟩]⟩ :=
    fun st' hle=>⟨n,m % n,⟨h2,Nat.le_trans (wid_mono (by omega) (Nat.le_of_lt hr)) h2,by rw [gcd_step];exact h3⟩,hr,hle⟩
   by_cases hm2:(dig 4294967296 m).length≤2
   ·by_cases hn2:(dig 4294967296 n).length≤2
    ·have hs:=small_ok m n hm2 hn2
     have hm2':((dig 4294967296 m).length:Int)≤2:=by omega
     have hn2':((dig 4294967296 n).length:Int)≤2:=by omega
     simp [hl,hm2',hn2']
     refine callF hs (by simp) ?_
     simp [zsv,h3]
    ·have hm2':((dig 4294967296 m).length:Int)≤2:=by omega
     have hn2':¬((dig 4294967296 n).length:Int)≤2:=by omega
     simp [hl,hm2',hn2']
     refine callF hlong (by simp) ?_
     simp
     refine callF ht (by simp) ?_
     simp
     exact go _ (by simp [leS,hC])
   ·have hm2':¬((dig 4294967296 m).length:Int)≤2:=by omega
    simp [hl,hm2']
    refine callF hlong (by simp) ?_
    simp
    refine callF ht (by simp) ?_
    simp
    exact go _ (by simp [leS,hC])
end Go.Proofs
namespace Go.Proofs
open Go.Sv Go Go.Pl
def fits64 (x:Int):Prop := -9223372036854775808≤x∧x≤9223372036854775807
instance (x:Int):Decidable (fits64 x):=inferInstanceAs (Decidable (_∧_))
end Go.Proofs
namespace Go.Proofs
open Go.Sv Go Go.Pl
theorem nouse_append (k:Nat) (A B:Tab):nouse k (A++B)=(nouse k A&&nouse k B):=by
 induction A with
 | nil=>simp [nouse]
 | cons x A ih=>cases x<;>simp [nouse,ih,Bool.and_assoc]
theorem timesPlus_here {C:Ctx} {M:Tab} {k n:Nat} {K:Tab→List Nat→SV→Prop} (l:List Nat) (b d:Nat) {d':Int} (hd':d'=d) (hn:n=l.length) (hk:tget M k=some ⟨1,l.map u32,false⟩) (hl:l.length≤4398046511103) (hx:∀d∈l,d<4294967296) (hb:b<4294967296) (hd:d<4294967296)
  (hfx:k∉C.fx) (hno:∀xs:List Nat,nouse k (tset M k (some ⟨1,xs.map u32,false⟩))=true) (hK:∀(l':List Nat) (J:Tab),(∀d∈l',d<4294967296)→l'.length≤l.length+1→val 4294967296 l'=val 4294967296 l*b+d→K (tset M k (some ⟨1,l'.map u32,false⟩)++J) [k] (.view k 0 l'.length)) :
  CallJ Tryz.prog C 182 [.view k 0 n,.val (.int .u32 b),.val (.int .u32 d')] M none K:=by
 subst hd' hn
 refine call_here Tryz.func182 rfl (by simp) [k] (by simpa using hfx) (by simp) (fun C' hC=>?_)
 have hkC:k∉C'.fx:=by rw [hC];simp
 simp (disch:=omega) [w64,wu64]
 refine CodeJ.loop (ι:=List Nat × Nat × Nat) (fun ⟨o,i,c⟩=>⟨43,[(0,.view k 0 l.length),(1,.val (.int .u32 b)),(7,.val (.int .u64 c)),(13,.val (.int .i64 l.length)),(14,.val (.int .i64 i))],tset M k (some ⟨1,o.map u32,false⟩)⟩)
  (fun ⟨o,i,c⟩=>o.length=l.length∧i≤l.length∧(∀d∈o,d<4294967296)∧c<4294967296∧o.drop i=l.drop i∧val 4294967296 (o.take i)+4294967296^i*c=val 4294967296 (l.take i)*b+d)
  (fun ⟨o,i,c⟩=>l.length - i) (l,0,d) ?_ ?_ ?_
 ·exact ⟨rfl,by omega,hx,hd,rfl,by simp [val]⟩
 ·simp [leS,tset_self hk]
 ·rintro ⟨o,i,c⟩ ⟨h1,h2,h3,h4,h5,h6⟩
  have hk':=tget_same (M:=M) (k:=k) ⟨1,o.map u32,false⟩ hk
  by_cases hlt:i<l.length
  ·have bo:=dg_lt h3 (by omega) i
   have ho:dg o i=dg l i:=dg_drop h5
   obtain ⟨t,ht⟩:∃t,t=dg o i*b+c:=⟨_,rfl⟩
   have hgv:dg o i*b≤4294967295*4294967295:=Nat.mul_le_mul (by omega) (by omega)
   have hgv':(dg o i:Int)*b≤18446744065119617025:=by rw [←Int.natCast_mul];omega
   have hgv0:(0:Int)≤(dg o i:Int)*b:=by rw [←Int.natCast_mul];omega
   have e1:(dg o i:Int)*b+c=t:=by rw [ht];push_cast;rfl
   obtain ⟨c',hc'⟩:∃c',c'=t / 4294967296:=⟨_,rfl⟩
   obtain ⟨lo,hlo⟩:∃lo,lo=t % 4294967296:=⟨_,rfl⟩
   have e2:(t:Int) % 4294967296=lo:=by omega
   have e3:(t:Int) / 4294967296=c':=by omega
   have hlo2:lo<4294967296:=by omega
   have F:=lt_set i h3 hlo2
   have G:val 4294967296 ((o.set i lo).take (i+1))+4294967296^(i+1)*c'=val 4294967296 (l.take (i+1))*b+d:=by
    rw [take_set_succ _ (by omega),val_app,List.length_take,Nat.min_eq_left (by omega),val_take',Nat.pow_succ]
    simp only [val,Nat.mul_zero,Nat.add_zero]
    have e:=Nat.mod_add_div t 4294967296
    rw [←hlo,←hc',ht,ho] at e
    generalize 4294967296^i=P at *
    grind
   have D:(o.set i lo).drop (i+1)=l.drop (i+1):=by rw [drop_set_succ];exact drop_drop_eq h5
   simp (disch:=omega) [w64,wu64,hlt,hk',lget_u32,u32w,lset_u32,e1,e2,e3, -List.map_set]
   repeat refine And.intro (by omega) ?_
   refine ⟨o.set i lo,i+1,c',⟨by simpa using h1,by omega,F,by omega,D,G⟩,by omega,by simp [leS]⟩
  ·obtain rfl:i=l.length:=by omega
   rw [List.take_length,List.take_of_length_le (by omega)] at h6
   by_cases hc:0<c
   ·have q1:=fun x=>tget_snoc_lt x hk'
    have q2:=fun x=>tget_len (M:=tset M k (some ⟨1,o.map u32,false⟩)) (n:=M.length) x (by simp)
    have q3:=fun x y=>tset_snoc_lt x y hk'
    have e:(c:Int) % 4294967296=c:=by omega
    simp (disch:=omega) [w64,hc,hk',u32w,hkC,h1,q1,q2,q3,e,nouse_append,hno]
    refine ⟨by omega,?_⟩
    have:=hK (o++[c]) [some ⟨1,[.val (.int .u32 c)],false⟩] (lt_snoc h3 h4) (by simp;omega) (by rw [val_app,h1];simpa [val] using h6)
    simpa [h1] using this
   ·obtain rfl:c=0:=by omega
    simp (disch:=omega) [w64]
    have:=hK o [] h3 (by omega) (by simpa using h6)
    rw [h1] at this
    simpa using this
end Go.Proofs

