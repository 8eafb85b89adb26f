/- A text of the prover's own. -/
import Derived.Test.YtmghjkkjaolpgaaGreatDoorUFs
open List renaming length_pos_iff→anB,getElem?_eq_getElem→al8,getD_eq_getElem?_getD→aoB,eq_nil_or_concat→anz,take_of_length_le→anE,drop_eq_nil_of_le→anC,replicate→alZ,map_set→anF
open Int renaming lt_trichotomy→anV,tmod_eq_emod_of_nonneg→aog,tdiv_eq_ediv_of_nonneg→aom,natCast_mul→anW,gcd→aoj,toNat_natCast→aoC
open Nat renaming mul_comm→anl,mul_le_mul→anT,pow_succ→anj,le_trans→amQ,sub_le→aoD,mod_lt→amt,add_assoc→amj,div_add_mod→aob,pos_of_ne_zero→ang,gcd_comm→aoe,pow_le_pow_right→ano
set_option maxRecDepth 20000
namespace Go.Proofs
open Go.Sv Go Go.Pl
def eJ(x:Int):SV:=.agg [.val (.bool (decide (x<0))),.ro ((bB 10000 x.natAbs).map i64)]
@[simp] theorem Y0(x:Int):(eJ x).fj=2:=rfl
@[simp] theorem Sd(x:Int):(eJ x).aM=false:=rfl
@[simp] theorem R7(x:Int):(eJ x).isAgg=true:=rfl
@[simp] theorem V9(x:Int):(eJ x).pure=true:=rfl
@[simp] theorem aeE(n:Nat)(x:Int):(eJ x).lt n=true:=rfl
@[simp] theorem agv(x:Int):(eJ x).ks=[]:=rfl
@[simp] theorem abB(M:aJ)(x:Int)(y:SV):Sub M (eJ x) y=(y=eJ x):=by
 cases y with
 | agg l =>
  match l with
  | []=>simp[eJ,Sv.Sub,cA]
  | [a]=>simp[eJ,Sv.Sub,cA]
  | a::b::c::r=>simp[eJ,Sv.Sub,cA]
  | [a,b]=>cases a<;>simp[eJ,Sv.Sub,cA];intro _;exact eq_comm
 | _=>simp[eJ,Sv.Sub]
theorem yW(x:Int):0<(bB 10000 x.natAbs).length↔x≠0:=by
 rw[anB,ne_eq,bL (by omega)];omega
theorem Gi{l:List Nat}{k:Nat}(h:k<l.length):l.take (k+1)=l.take k++[dg l k]:=by
 rw[List.take_add_one,al8 h];simp[dg,aoB,al8 h]
theorem nV(xs:List Nat)(h:xs.length≤4398046511104):aI Tryz.prog 144 [.ro (xs.map i64)] (.ro ((cu xs).map i64)):=by
 refine aj Tryz.func144 rfl (by simp) (fun C hC=>?_);simp;refine ae.loop (ι:=Nat) (fun n=>⟨21,[(0,.ro (xs.map i64)),(3,.val (.int .i64 n))],[]⟩) (fun n=>n≤xs.length∧cu (xs.take n)=cu xs) (fun n=>n) xs.length ?_ ?_ ?_
 ·simp
 ·simp[ar]
 ·rintro n ⟨hl,ht⟩;cases n with
  | zero =>
   simp[cu]at ht;simp[←ht]
  | succ k =>
   have tk:=Gi (l:=xs) (k:=k) (by omega);by_cases hz:dg xs k=0
   ·rw[tk,hz,mD]at ht;simp(disch:=omega)[aP,dQ,hz];refine⟨by omega,k,⟨by omega,ht⟩,by omega,by simp[ar,hC]⟩
   ·have hz':¬(dg xs k:Int)=0:=by omega
    rw[tk,pF _ hz,←tk]at ht;simp(disch:=omega)[aP,dQ,hz',hz];refine⟨by omega,by omega,?_⟩;rw[←List.map_take,ht]
theorem nO(b:Bool)(xs:List Nat)(h:xs.length≤4398046511104)(hx:∀d∈xs,d<10000) :
  aI Tryz.prog 90 [.val (.bool b),.ro (xs.map i64)] (eJ (if b=true then -(val 10000 xs:Int) else(val 10000 xs:Int))):=by
 refine aj Tryz.func90 rfl (by simp) (fun C hC=>?_);simp;refine aZ (nV xs h) (by simp) ?_;rw[←fT (by omega) xs hx];generalize val 10000 xs=n;cases b with
 | false=>
  simp[eJ]
 | true =>
  simp[eJ,anB,bL];by_cases h:n=0<;>simp[h];omega
theorem IK(x:Int):aI Tryz.prog 67 [eJ x] (.val (.int .i64 x.sign)):=by
 refine aj Tryz.func67 rfl (by simp) (fun C hC=>?_);simp[eJ,bL];refine⟨fun h=>by simp[h],fun _=>⟨fun h=>(Int.sign_eq_neg_one_of_neg h).symm,fun h=>(Int.sign_eq_one_of_pos (by omega)).symm⟩⟩
theorem Ad(x:Int):aI Tryz.prog 139 [eJ x] (eJ (-x)):=by
 refine aj Tryz.func139 rfl (by simp) (fun C hC=>?_);simp[eJ,yW];refine⟨fun h=>?_,fun h=>by omega⟩;by_cases h0:x=0
 ·simp[h0]
 ·have:0<x:=by omega
  simp[h0,this]
theorem vQ(m n:Nat)(hm:wid 10000 m≤4398046511104)(hn:wid 10000 n≤4398046511104) :
  aI Tryz.prog 91 [.ro ((bB 10000 m).map i64),.ro ((bB 10000 n).map i64)] (.val (.int .i64 (dZ m n))):=by
 refine aj Tryz.func91 rfl (by simp) (fun C hC=>?_);have vm:=bX (B:=10000) (by omega) m;have vn:=bX (B:=10000) (by omega) n;have lm:=cQ (B:=10000) (by omega) m;have ln:=cQ (B:=10000) (by omega) n;simp only[wid]at hm hn;simp;refine⟨fun hne=>⟨fun aF=>?_,fun hge=>?_⟩,fun he=>?_⟩
 ·simp[dZ,oI (by omega) aF]
 ·have:=oI (B:=10000) (m:=n) (n:=m) (by omega) (by omega);simp[dZ,this];omega
 ·refine ae.loop (ι:=List Nat × List Nat × List Nat) (fun⟨la,lb,r⟩=>⟨41,[(0,.ro ((la++r).map i64)),(1,.ro ((lb++r).map i64)),(5,.val (.int .i64 ((la.length:Int) - 1)))],[]⟩)
   (fun⟨la,lb,r⟩=>bB 10000 m=la++r∧bB 10000 n=lb++r∧la.length=lb.length) (fun⟨la,lb,r⟩=>la.length) (bB 10000 m,bB 10000 n,[]) ?_ ?_ ?_
  ·simp;omega
  ·simp(disch:=omega)[ar,aP]
  ·rintro⟨la,lb,r⟩ ⟨h1,h2,h3⟩;rcases anz la with rfl | ⟨la,x,rfl⟩
   ·have:lb=[]:=by cases lb<;>simp_all
    subst this;simp;have:m=n:=by rw[←vm,←vn,h1,h2]
    simp[dZ,this]
   ·rcases anz lb with rfl | ⟨lb,y,rfl⟩
    ·simp at h3
    simp at h1 h2 h3;simp[h3];have hl:lb.length<4398046511104:=by rw[h2]at hn;simp at hn;omega
    refine ae.alS (.qs [0,1,2,3,4,5,6,7,8] .nil) ?_;have c1:x<y→m<n:=fun h=>by rw[←vm,←vn,h1,h2];exact uk (fun d hd=>lm d (by rw[h1];simp[hd])) h3 h
    have c2:y<x→n<m:=fun h=>by rw[←vm,←vn,h1,h2];exact uk (fun d hd=>ln d (by rw[h2];simp[hd])) h3.symm h
    simp(disch:=omega)[uh,aP];refine⟨by omega,by omega,fun aF=>?_,fun hge=>?_⟩
    ·simp[dZ,c1 aF]
    ·refine ae.draw (.qs [0,1,2,3,4,5,6,7,8] .nil) (by kernel_rfl) (by kernel_rfl) (by simp) ?_;simp(disch:=omega)[uh,aP];refine⟨by omega,by omega,fun aF=>?_,fun hge'=>?_⟩
     ·have:=c2 (by omega);simp[dZ,this];omega
     ·refine⟨la,lb,y::r,?_⟩;have he:x=y:=by omega
      simp[h1,h2,h3,he,ar,hC]
theorem Kv(x y:Int)(hm:wid 10000 x.natAbs≤4398046511104)(hn:wid 10000 y.natAbs≤4398046511104) :
  aI Tryz.prog 55 [eJ x,eJ y] (.val (.int .i64 (if x<y then -1 else if y<x then 1 else 0))):=by
 refine aj Tryz.func55 rfl (by simp) (fun C hC=>?_);have hc:=vQ _ _ hm hn;by_cases hx:x<0<;>by_cases hy:y<0<;>simp[eJ,hx,hy]
 ·refine aZ hc (by simp) ?_;rcases anV x y with h | h | h
  ·have e:dZ x.natAbs y.natAbs=1:=by rw[dZ,if_neg (by omega),if_pos (by omega)]
   simp[e,h,aP]
  ·subst h;simp[dZ,aP]
  ·have e:dZ x.natAbs y.natAbs = -1:=by rw[dZ,if_pos (by omega)]
   have:¬x<y:=by omega
   simp[e,h,this,aP]
 ·omega
 ·omega
 ·refine aZ hc (by simp) ?_;rcases anV x y with h | h | h
  ·have e:dZ x.natAbs y.natAbs = -1:=by rw[dZ,if_pos (by omega)]
   simp[e,h]
  ·subst h;simp[dZ]
  ·have e:dZ x.natAbs y.natAbs=1:=by rw[dZ,if_neg (by omega),if_pos (by omega)]
   have:¬x<y:=by omega
   simp[e,h,this]
theorem Tm{o r l:List Nat}(h:l=o++r):o.length≤l.length:=by rw[h];simp
theorem Lo{m:Nat}(h:m≤9223372036854775808):(bB 10000 m).length≤5:=gZ (by omega) (by omega)
theorem jg(n:Int)(h1 : -9223372036854775807≤n)(h2:n≤9223372036854775807):aI Tryz.prog 136 [.val (.int .i64 n)] (eJ n):=by
 refine aj Tryz.func136 rfl (by simp) (fun C hC=>?_);have hl:=Lo (m:=n.natAbs) (by omega);by_cases hn:n<0
 ·simp(disch:=omega)[hn,aP];refine ae.nil 4 1 rfl ?_;refine ae.loop (ι:=Nat × List Nat) (fun⟨m,o⟩=>⟨22,[(0,.val (.int .i64 m)),(2,.ptr 0 0 0),(3,.val (.bool true)),(4,.view 1 0 o.length)],
    [some ⟨2,[.agg [.val (.bool false),.val (.slice none 0 0)]],false⟩,some ⟨1,o.map i64,false⟩]⟩)
   (fun⟨m,o⟩=>m≤9223372036854775807∧bB 10000 n.natAbs=o++bB 10000 m) (fun⟨m,o⟩=>m) (n.natAbs,[]) ?_ ?_ ?_
  ·exact⟨by omega,by simp⟩
  ·simp[ar,hC];omega
  ·rintro⟨m,o⟩ ⟨g1,g2⟩;have ho:=Tm g2;by_cases hm:m=0
   ·subst hm;simp[bf]at g2;simp[eJ,hn,g2,anE]
   ·obtain⟨d,hd⟩:∃d,d=m % 10000:=⟨_,rfl⟩;have e1:(m:Int).tmod 10000=d:=by rw[aog (by omega)];omega
    have e2:(m:Int).tdiv 10000=(m / 10000:Nat):=by rw[aom (by omega)];omega
    have g3:bB 10000 n.natAbs=(o++[d])++bB 10000 (m / 10000):=by rw[g2,kL (by omega) (by omega),hd];simp
    have hm':0<m:=by omega
    simp(disch:=omega)[hm',e1,e2,aP,hC];refine⟨by omega,m / 10000,o++[d],⟨by omega,g3⟩,by omega,by simp[ar,hC]⟩
 ·simp(disch:=omega)[hn,aP];refine ae.nil 4 1 rfl ?_;refine ae.loop (ι:=Nat × List Nat) (fun⟨m,o⟩=>⟨22,[(0,.val (.int .i64 m)),(2,.ptr 0 0 0),(3,.val (.bool false)),(4,.view 1 0 o.length)],
    [some ⟨2,[.agg [.val (.bool false),.val (.slice none 0 0)]],false⟩,some ⟨1,o.map i64,false⟩]⟩)
   (fun⟨m,o⟩=>m≤9223372036854775807∧bB 10000 n.natAbs=o++bB 10000 m) (fun⟨m,o⟩=>m) (n.natAbs,[]) ?_ ?_ ?_
  ·exact⟨by omega,by simp⟩
  ·simp[ar,hC];omega
  ·rintro⟨m,o⟩ ⟨g1,g2⟩;have ho:=Tm g2;by_cases hm:m=0
   ·subst hm;simp[bf]at g2;simp[eJ,hn,g2,anE]
   ·obtain⟨d,hd⟩:∃d,d=m % 10000:=⟨_,rfl⟩;have e1:(m:Int).tmod 10000=d:=by rw[aog (by omega)];omega
    have e2:(m:Int).tdiv 10000=(m / 10000:Nat):=by rw[aom (by omega)];omega
    have g3:bB 10000 n.natAbs=(o++[d])++bB 10000 (m / 10000):=by rw[g2,kL (by omega) (by omega),hd];simp
    have hm':0<m:=by omega
    simp(disch:=omega)[hm',e1,e2,aP,hC];refine⟨by omega,m / 10000,o++[d],⟨by omega,g3⟩,by omega,by simp[ar,hC]⟩
end Go.Proofs
namespace Go.Proofs
open Go.Sv Go Go.Pl
def Nt(B n k:Nat)(x:SV):Prop:=∃l:List Nat,x=.ro (l.map i64)∧(∀d∈l,d<B)∧val B l=n∧l.length≤k
theorem tw{x:Int}(h:0≤x):x.tmod 10000=x % 10000:=aog h
theorem sV{x:Int}(h:0≤x):x.tdiv 10000=x / 10000:=aom h
theorem Jn(a b:List Nat)(ha:∀d∈a,d<10000)(hb:∀d∈b,d<10000)(hla:a.length≤4398046511104)(hlb:b.length≤4398046511104) :
  nS Tryz.prog 142 [.ro (a.map i64),.ro (b.map i64)] (Nt 10000 (val 10000 a+val 10000 b) (max a.length b.length+1)):=by
 refine aj Tryz.func142 rfl (by simp) (fun C hC=>?_);obtain⟨k,hk⟩:∃k,k=max a.length b.length:=⟨_,rfl⟩;obtain⟨s,hs⟩:∃s,s=val 10000 a+val 10000 b:=⟨_,rfl⟩;rw[←hk,←hs];simp;refine ae.nil 5 1 rfl ?_;refine ae.loop (ι:=List Nat × Nat)
  (fun⟨out,c⟩=>⟨52,[(0,.ro (a.map i64)),(1,.ro (b.map i64)),(5,.view 0 0 out.length),(6,.val (.int .i64 c)),(7,.val (.int .i64 out.length))],[some ⟨1,out.map i64,false⟩]⟩)
  (fun⟨out,c⟩=>out.length+c≤k+1∧c≤1∧(∀d∈out,d<10000) ∧
   val 10000 out+10000^out.length*(c+(val 10000 (a.drop out.length)+val 10000 (b.drop out.length)))=s)
  (fun⟨out,c⟩=>k+1 - out.length) ([],0) ?_ ?_ ?_
 ·simpa[val]using hs.symm
 ·simp[ar,hC]
 ·rintro⟨out,c⟩ ⟨h1,h2,h3,h4⟩;have bp:=dV ha (by omega) out.length;have bq:=dV hb (by omega) out.length;obtain⟨x,hx⟩:∃x,x=c+dg a out.length+dg b out.length:=⟨_,rfl⟩;have F1:∀d∈out++[x % 10000],d<10000:=mC h3 (by omega);have F2:val 10000 (out++[x % 10000])+10000^(out.length+1)*(x / 10000+(val 10000 (a.drop (out.length+1))+val 10000 (b.drop (out.length+1))))=s:=by
   rw[←h4,u9,di _ a out.length,di _ b out.length,hx];congr 2;omega
  by_cases h5:out.length<a.length
  ·by_cases h6:out.length<b.length
   ·simp(disch:=omega)[h5,h6,aP,hC,dQ,tw,sV];exact⟨by omega,out++[x % 10000],x / 10000,⟨by simp;omega,by omega,F1,by simpa using F2⟩,by simp;omega,by subst hx;simp[ar,hC]⟩
   ·have:=jm (l:=b) (i:=out.length) (by omega);rw[this]at hx;simp(disch:=omega)[h5,h6,aP,hC,dQ,tw,sV];exact⟨by omega,out++[x % 10000],x / 10000,⟨by simp;omega,by omega,F1,by simpa using F2⟩,by simp;omega,by subst hx;simp[ar,hC]⟩
  ·have ga:=jm (l:=a) (i:=out.length) (by omega);by_cases h6:out.length<b.length
   ·rw[ga]at hx;simp(disch:=omega)[h5,h6,aP,hC,dQ,tw,sV];exact⟨by omega,out++[x % 10000],x / 10000,⟨by simp;omega,by omega,F1,by simpa using F2⟩,by simp;omega,by subst hx;simp[ar,hC]⟩
   ·have gb:=jm (l:=b) (i:=out.length) (by omega);rw[ga,gb]at hx;by_cases hc:0<c
    ·have hc':c=1:=by omega
     subst hc';simp(disch:=omega)[h5,h6,aP,hC,tw,sV];exact⟨by omega,out++[x % 10000],x / 10000,⟨by simp;omega,by omega,F1,by simpa using F2⟩,by simp;omega,by subst hx;simp[ar,hC]⟩
    ·have hc':c=0:=by omega
     subst hc';have e1:a.drop out.length=[]:=anC (by omega);have e2:b.drop out.length=[]:=anC (by omega);simp only[e1,e2,val]at h4;simp(disch:=omega)[h5,h6,aP,hC];exact⟨_,by simp[anE],out,rfl,h3,by simpa using h4,by omega⟩
theorem FW(a:List Nat)(x:Nat)(ha:∀d∈a,d<10000)(hx:x<10000)(hla:a.length≤2000000000000) :
  aI Tryz.prog 166 [.ro (a.map i64),.val (.int .i64 x)] (.ro ((bB 10000 (val 10000 a*x)).map i64)):=by
 refine aj Tryz.func166 rfl (by simp) (fun C hC=>?_);obtain⟨s,hs⟩:∃s,s=val 10000 a*x:=⟨_,rfl⟩;rw[←hs];simp;refine ae.nil 5 1 rfl ?_;refine ae.loop (ι:=List Nat × Nat)
  (fun⟨out,c⟩=>⟨39,[(0,.ro (a.map i64)),(1,.val (.int .i64 x)),(5,.view 0 0 out.length),(6,.val (.int .i64 c)),(7,.val (.int .i64 out.length))],[some ⟨1,out.map i64,false⟩]⟩)
  (fun⟨out,c⟩=>(out.length≤a.length∨out.length=a.length+1∧c=0)∧c<10000∧(∀d∈out,d<10000) ∧
   val 10000 out+10000^out.length*(c+x*val 10000 (a.drop out.length))=s)
  (fun⟨out,c⟩=>a.length+1 - out.length) ([],0) ?_ ?_ ?_
 ·exact⟨.inl (by simp),by omega,by simp,by simp[val,hs,anl]⟩
 ·simp[ar,hC]
 ·rintro⟨out,c⟩ ⟨h1,h2,h3,h4⟩;have bp:=dV ha (by omega) out.length;obtain⟨p,hp⟩:∃p,p=dg a out.length*x:=⟨_,rfl⟩;have hp':p≤9999*9999:=by rw[hp];exact anT (by omega) (by omega)
  have hpz:(dg a out.length:Int)*x=p:=by rw[hp,anW]
  obtain⟨y,hy⟩:∃y,y=c+p:=⟨_,rfl⟩;have F1:∀d∈out++[y % 10000],d<10000:=mC h3 (by omega);have F2:val 10000 (out++[y % 10000])+10000^(out.length+1)*(y / 10000+x*val 10000 (a.drop (out.length+1)))=s:=by
   rw[←h4,u9,di _ a out.length,hy,hp];congr 2;grind
  by_cases h5:out.length<a.length
  ·simp(disch:=omega)[h5,aP,hC,dQ,tw,sV,hpz];exact⟨by omega,out++[y % 10000],y / 10000,⟨by simp;omega,by omega,F1,by simpa using F2⟩,by simp;omega,by subst hy;simp[ar,hC]⟩
  ·have ga:=jm (l:=a) (i:=out.length) (by omega);have hp0:p=0:=by rw[hp,ga];simp
   rw[hp0]at hy;by_cases hc:0<c
   ·simp(disch:=omega)[h5,hc,aP,hC,tw,sV];exact⟨by omega,out++[y % 10000],y / 10000,⟨by simp;omega,by omega,F1,by simpa using F2⟩,by simp;omega,by subst hy;simp[ar,hC]⟩
   ·have hc':c=0:=by omega
    subst hc';have e1:a.drop out.length=[]:=anC (by omega);simp only[e1,val]at h4;simp(disch:=omega)[h5,aP,hC];refine aZ (nV out (by omega)) (by simp[anE]) ?_;have e:cu out=bB 10000 s:=by rw[←fT (by omega) out h3];simp at h4;rw[h4]
    simp[e]
end Go.Proofs
namespace Go.Proofs
open Go.Sv Go Go.Pl
theorem v3(m n:Nat)(hmn:n≤m)(hm:wid 10000 m≤4398046511104):aI Tryz.prog 143 [.ro ((bB 10000 m).map i64),.ro ((bB 10000 n).map i64)] (.ro ((bB 10000 (m - n)).map i64)):=by
 refine aj Tryz.func143 rfl (by simp) (fun C hC=>?_);have B2:2≤10000:=by omega
 have hp:=cQ B2 m;have hq:=cQ B2 n;have hlq:(bB 10000 n).length≤(bB 10000 m).length:=bY B2 hmn;obtain⟨T,hTd⟩:∃T,T=m - n:=⟨_,rfl⟩;have hT:val 10000 (bB 10000 m)=T+val 10000 (bB 10000 n):=by rw[bX B2,bX B2];omega
 rw[←hTd];simp only[wid]at hm;generalize bB 10000 m=p at *;generalize bB 10000 n=q at *;simp;refine ae.nil 5 1 rfl ?_;refine ae.loop (ι:=List Nat × Nat)
  (fun⟨o,c⟩=>⟨41,[(0,.ro (p.map i64)),(1,.ro (q.map i64)),(5,.view 0 0 o.length),(6,.val (.int .i64 c)),(7,.val (.int .i64 o.length))],[some ⟨1,o.map i64,false⟩]⟩)
  (fun⟨o,c⟩=>o.length≤p.length∧c≤1∧(∀d∈o,d<10000) ∧
   val 10000 o+10000^o.length*val 10000 (p.drop o.length)=T+10000^o.length*(c+val 10000 (q.drop o.length)))
  (fun⟨o,c⟩=>p.length - o.length) ([],0) ?_ ?_ ?_
 ·exact⟨by simp,by omega,by simp,by simpa[val]using hT⟩
 ·simp[ar,hC]
 ·rintro⟨o,c⟩ ⟨h1,h2,h3,h4⟩;have bp:=dV hp (by omega) o.length;have bq:=dV hq (by omega) o.length;by_cases aF:o.length<p.length
  ·have key:∀u c',dg p o.length+10000*c'=u+dg q o.length+c→val 10000 (o++[u])+10000^(o.length+1)*val 10000 (p.drop (o.length+1))=T+10000^(o.length+1)*(c'+val 10000 (q.drop (o.length+1))):=by
    intro u c' e;rw[di _ p o.length,di _ q o.length]at h4;rw[cP,anj];simpa[val]using vB h4 e
   have fin:∀u c',dg p o.length+10000*c'=u+dg q o.length+c→u<10000→c'≤1 →
     (o++[u]).length≤p.length∧c'≤1∧(∀d∈o++[u],d<10000)∧val 10000 (o++[u])+10000^(o++[u]).length*val 10000 (p.drop (o++[u]).length)=T+10000^(o++[u]).length*(c'+val 10000 (q.drop (o++[u]).length)):=fun u c' e hu hc' =>
    ⟨by simp;omega,hc',mC h3 hu,by simpa using key u c' e⟩
   by_cases hlq':o.length<q.length
   ·by_cases hneg:dg p o.length<c+dg q o.length
    ·have hneg':(dg p o.length:Int) - c - dg q o.length<0:=by omega
     obtain⟨u,hu⟩:∃u:Nat,u=dg p o.length+10000 - c - dg q o.length:=⟨_,rfl⟩;have hu':(dg p o.length:Int) - c - dg q o.length+10000=u:=by omega
     simp(disch:=omega)[aF,hlq',aP,hC,dQ,hneg',hu'];exact⟨by omega,o++[u],1,fin u 1 (by omega) (by omega) (by omega),by simp;omega,by simp[ar,hC]⟩
    ·have hneg':¬(dg p o.length:Int) - c - dg q o.length<0:=by omega
     obtain⟨u,hu⟩:∃u:Nat,u=dg p o.length - c - dg q o.length:=⟨_,rfl⟩;have hu':(dg p o.length:Int) - c - dg q o.length=u:=by omega
     simp(disch:=omega)[aF,hlq',aP,hC,dQ,hneg',hu'];exact⟨by omega,by omega,o++[u],0,fin u 0 (by omega) (by omega) (by omega),by simp;omega,by simp[ar,hC]⟩
   ·have gq:=jm (l:=q) (i:=o.length) (by omega);by_cases hneg:dg p o.length<c
    ·have hneg':(dg p o.length:Int) - c<0:=by omega
     obtain⟨u,hu⟩:∃u:Nat,u=dg p o.length+10000 - c:=⟨_,rfl⟩;have hu':(dg p o.length:Int) - c+10000=u:=by omega
     simp(disch:=omega)[aF,hlq',aP,hC,dQ,hneg',hu'];exact⟨by omega,o++[u],1,fin u 1 (by omega) (by omega) (by omega),by simp;omega,by simp[ar,hC]⟩
    ·have hneg':¬(dg p o.length:Int) - c<0:=by omega
     obtain⟨u,hu⟩:∃u:Nat,u=dg p o.length - c:=⟨_,rfl⟩;have hu':(dg p o.length:Int) - c=u:=by omega
     simp(disch:=omega)[aF,hlq',aP,hC,dQ,hneg',hu'];exact⟨by omega,by omega,o++[u],0,fin u 0 (by omega) (by omega) (by omega),by simp;omega,by simp[ar,hC]⟩
  ·have hi:o.length=p.length:=by omega
   have e1:p.drop o.length=[]:=anC (by omega);have e2:q.drop o.length=[]:=anC (by omega);have h6:=kc o h3;rw[e1,e2]at h4;have h7:val 10000 o=T:=by
    rcases Nat.le_one_iff_eq_zero_or_eq_one.1 h2 with rfl | rfl
    ·simpa[val]using h4
    ·simp[val]at h4;omega
   simp(disch:=omega)[aF,aP,hC];refine aZ (nV o (by omega)) (by simp[anE]) ?_;have e:cu o=bB 10000 T:=by rw[←fT (by omega) o h3,h7]
   simp[e]
def eE(x:Int):Prop:=wid 10000 x.natAbs≤1000000000000
theorem lG{x:Int}:eE (-x)↔eE x:=by simp[eE]
theorem uc(x y:Int)(hm:eE x)(hn:eE y):aI Tryz.prog 89 [eJ x,eJ y] (eJ (x+y)):=by
 refine aj Tryz.func89 rfl (by simp) (fun C hC=>?_);have B2:2≤10000:=by omega
 have vx:=bX B2 x.natAbs;have vy:=bX B2 y.natAbs;have lx:=cQ B2 x.natAbs;have ly:=cQ B2 y.natAbs;have hm':=hm;have hn':=hn;simp only[eE,wid]at hm' hn';by_cases hs:(x<0↔y<0)
 ·simp[eJ,hs];refine vZ (Jn _ _ lx ly (by omega) (by omega)) (by simp) ?_;rintro _ ⟨l,rfl,h1,h2,h3⟩;simp;have e:(if decide (y<0)=true then -(val 10000 l:Int) else(val 10000 l:Int))=x+y:=by
   rw[h2,vx,vy];split<;>simp_all<;>omega
  have hmd:=nO (decide (y<0)) l (by omega) h1;rw[e]at hmd;refine aZ hmd (by simp) ?_;simp[eJ]
 ·have hc:=vQ _ _ (show wid 10000 x.natAbs≤4398046511104 by simp only[wid];omega) (show wid 10000 y.natAbs≤4398046511104 by simp only[wid];omega);have fin:∀(σ:Bool) (k:Nat),wid 10000 k≤4398046511104→(if σ=true then -(k:Int) else(k:Int))=x+y→aI Tryz.prog 90 [.val (.bool σ),.ro ((bB 10000 k).map i64)] (eJ (x+y)):=fun σ k hk e=>by
   have:=nO σ (bB 10000 k) hk (cQ B2 k)
   rwa [bX B2,e]at this
  rcases Nat.lt_or_ge x.natAbs y.natAbs with h | h
  ·have e0:dZ x.natAbs y.natAbs = -1:=by simp[dZ,h]
   rw[e0]at hc;have hl:=v3 y.natAbs x.natAbs (by omega) (by simp only[wid];omega);simp[eJ,hs];refine aZ hc (by simp) ?_;simp;refine aZ hl (by simp) ?_;simp;refine aZ (fin (decide (y<0)) (y.natAbs - x.natAbs) (amQ (bY B2 (aoD _ _)) (by simp only[wid];omega)) (by split<;>simp_all<;>omega)) (by simp) ?_;simp[eJ]
  ·have e0:dZ x.natAbs y.natAbs=if y.natAbs<x.natAbs then 1 else 0:=by simp[dZ];omega
   rw[e0]at hc;have hl:=v3 x.natAbs y.natAbs (by omega) (by simp only[wid];omega);simp[eJ,hs];refine aZ hc (by simp) ?_;have e1:(0:Int)≤(if y.natAbs<x.natAbs then(1:Int) else 0):=by split<;>omega
   simp[e1];refine aZ hl (by simp) ?_;simp;refine aZ (fin (decide (x<0)) (x.natAbs - y.natAbs) (amQ (bY B2 (aoD _ _)) (by simp only[wid];omega)) (by split<;>simp_all<;>omega)) (by simp) ?_;simp[eJ]
theorem J4(x y:Int)(hm:eE x)(hn:eE y):aI Tryz.prog 163 [eJ x,eJ y] (eJ (x - y)):=by
 refine aj Tryz.func163 rfl (by simp) (fun C hC=>?_);simp;refine aZ (Ad y) (by simp) ?_;simp;refine aZ (uc x (-y) hm (lG.2 hn)) (by simp) ?_;simp[Int.sub_eq_add_neg]
end Go.Proofs
namespace Go.Proofs
open Go.Sv Go Go.Pl
theorem Kw{B:Nat}{l:List Nat}{j:Nat}(u:Nat)(h:j<l.length):val B (l.set j u)+B^j*dg l j=val B l+B^j*u:=by
 induction l generalizing j with
 | nil=>simp at h
 | cons a l ih =>
  cases j with
  | zero=>simp[val,dg];omega
  | succ j =>
   have:=ih (j:=j) (by simpa using h);simp only[List.set_cons_succ,val];have e:dg (a::l) (j+1)=dg l j:=by simp[dg]
   rw[e,anj];grind
theorem TD{l l':List Nat}{n k:Nat}(h:l.drop n=l'.drop n)(hk:n≤k):dg l k=dg l' k:=by
 have e:=congrArg (fun x=>x[k - n]?) h;simp only[List.getElem?_drop,show n+(k - n)=k by omega]at e;unfold dg;rw[aoB,aoB,e]
theorem ju(x y:Int)(hm:eE x)(hn:eE y) :
  aI Tryz.prog 54 [eJ x,eJ y] (eJ (x*y)):=by
 refine aj Tryz.func54 rfl (by simp) (fun C hC=>?_);have B2:2≤10000:=by omega
 have vx:=bX B2 x.natAbs;have vy:=bX B2 y.natAbs;have lx:=cQ B2 x.natAbs;have ly:=cQ B2 y.natAbs;have hxm:(if(decide (x<0) != decide (y<0))=true then -((x.natAbs*y.natAbs:Nat):Int) else((x.natAbs*y.natAbs:Nat):Int))=x*y:=ET x y;simp only[eE,wid]at hm hn;simp[eJ];generalize bB 10000 x.natAbs=a at *;generalize bB 10000 y.natAbs=b at *;simp(disch:=omega)[aP];refine⟨by omega,?_⟩;refine ae.loop (ι:=List Nat × Nat)
  (fun⟨o,i⟩=>⟨79,[(2,.ptr 0 0 0),(3,.ptr 1 0 0),(4,.ptr 2 0 0),(5,.view 3 0 (a.length+b.length+1)),(6,.val (.int .i64 i))],
   [some ⟨2,[.agg [.val (.bool (decide (x<0))),.ro (a.map i64)]],false⟩,some ⟨2,[.agg [.val (.bool (decide (y<0))),.ro (b.map i64)]],false⟩,some ⟨2,[.agg [.val (.bool false),.val (.slice none 0 0)]],false⟩,some ⟨1,o.map i64,false⟩]⟩)
  (fun⟨o,i⟩=>o.length=a.length+b.length+1∧i≤a.length∧(∀d∈o,d<10000)∧(∀j,i+b.length≤j→dg o j=0)∧val 10000 o=val 10000 (a.take i)*val 10000 b)
  (fun⟨o,i⟩=>a.length - i) (alZ (a.length+b.length+1) 0,0) ?_ ?_ ?_
 ·refine⟨by simp,by omega,by simp,?_,?_⟩
  ·intro j _;unfold dg;rw[aoB,List.getElem?_replicate];split<;>rfl
  ·simp[yx];simp[val]
 ·simp[ar,hC];omega
 ·rintro⟨o,i⟩ ⟨h1,h2,h3,hz,h4⟩;by_cases aF:i<a.length
  ·simp(disch:=omega)[aF,aP,hC];have bx:=dV lx (by omega) i;refine ae.loop (ι:=List Nat × Nat × Nat)
    (fun⟨o',j,c⟩=>⟨79,[(2,.ptr 0 0 0),(3,.ptr 1 0 0),(4,.ptr 2 0 0),(5,.view 3 0 (a.length+b.length+1)),(6,.val (.int .i64 i)),(7,.val (.int .i64 c)),(8,.val (.int .i64 j))],
     [some ⟨2,[.agg [.val (.bool (decide (x<0))),.ro (a.map i64)]],false⟩,some ⟨2,[.agg [.val (.bool (decide (y<0))),.ro (b.map i64)]],false⟩,some ⟨2,[.agg [.val (.bool false),.val (.slice none 0 0)]],false⟩,some ⟨1,o'.map i64,false⟩]⟩)
    (fun⟨o',j,c⟩=>o'.length=a.length+b.length+1∧(j≤b.length∨j=b.length+1∧c=0)∧c<10000∧(∀d∈o',d<10000)∧o'.drop (i+j)=o.drop (i+j) ∧
     val 10000 o'+10000^(i+j)*c=val 10000 o+10000^i*(dg a i*val 10000 (b.take j)))
    (fun⟨o',j,c⟩=>b.length+1 - j) (o,0,0) ?_ ?_ ?_
   ·exact⟨h1,by omega,by omega,h3,rfl,by simp[val]⟩
   ·simp[ar,hC]
   ·rintro⟨o',j,c⟩ ⟨g1,g2,g3,g4,g5,g6⟩;have hd:dg o' (i+j)=dg o (i+j):=qp g5;have bo:=dV g4 (by omega) (i+j);have by_:=dV ly (by omega) j;obtain⟨p,hp⟩:∃p,p=dg a i*dg b j:=⟨_,rfl⟩;have hp':p≤9999*9999:=by rw[hp];exact anT (by omega) (by omega)
    have hpz:(dg a i:Int)*dg b j=p:=by rw[hp,anW]
    obtain⟨t,ht⟩:∃t,t=dg o' (i+j)+c+p:=⟨_,rfl⟩;have F:=jO (i+j) g4 (amt t (show 0<10000 by omega));have E:=Nat.mod_add_div t 10000;have K:val 10000 (o'.set (i+j) (t % 10000))+10000^(i+(j+1))*(t / 10000)=val 10000 o+10000^i*(dg a i*val 10000 (b.take (j+1))):=by
     have:=Kw (B:=10000) (t % 10000) (show i+j<o'.length by omega);rw[dp];rw[←amj,anj];have e:(10000:Nat)^(i+j)=10000^i*10000^j:=Nat.pow_add ..;rw[e]at this g6 ⊢;grind
    have D:(o'.set (i+j) (t % 10000)).drop (i+(j+1))=o.drop (i+(j+1)):=by
     rw[←amj,eY];exact iN g5
    by_cases hlj:j<b.length
    ·simp(disch:=omega)[hlj,aP,hC,dQ];refine⟨by omega,by omega,?_⟩;refine ae.alS (.qs [0,1,2,3,4,5,6,7,8,9,10,11,12,13]<|.nil) ?_;simp(disch:=omega)[hlj,aP,hC,dQ,hpz,tw,sV, -anF];repeat refine And.intro (by omega) ?_
     refine⟨o'.set (i+j) (t % 10000),j+1,t / 10000,⟨by simpa using g1,by omega,by omega,F,D,K⟩,by omega,?_⟩;subst ht;simp[ar,hC,cj]
    ·have gb:=jm (l:=b) (i:=j) (by omega);have hp0:p=0:=by rw[hp,gb];simp
     rw[hp0]at ht;by_cases hc:0<c
     ·have hjb:j=b.length:=by omega
      have hz':dg o' (i+j)=0:=by rw[hd];exact hz _ (by omega)
      rw[hz']at ht;have ht':t % 10000=c:=by omega
      have ht'':t / 10000=0:=by omega
      simp(disch:=omega)[hlj,hc,aP,hC,dQ,hz',tw,sV, -anF];repeat refine And.intro (by omega) ?_
      refine⟨o'.set (i+j) (t % 10000),j+1,t / 10000,⟨by simpa using g1,by omega,by omega,F,D,K⟩,by omega,?_⟩;subst ht;simp[ar,hC,cj]
     ·have hc':c=0:=by omega
      subst hc';simp(disch:=omega)[hlj,aP,hC];refine⟨o',i+1,⟨g1,by omega,g4,fun k hk=>?_,?_⟩,by omega,by simp[ar,hC]⟩
      ·rw[TD g5 (by omega)];exact hz _ (by omega)
      ·have tb:b.take j=b:=anE (by omega);rw[tb,h4]at g6;rw[dp];grind
  ·obtain rfl:i=a.length:=by omega
   simp(disch:=omega)[aP,hC];have e1:a.take a.length=a:=List.take_length;rw[e1,vx,vy]at h4;have hmd:=nO (decide (x<0) != decide (y<0)) o (by omega) h3;rw[h4,hxm]at hmd;refine aZ hmd (by simp[anE,h1,bne]) ?_;simp[eJ]
end Go.Proofs
namespace Go.Proofs
open Go.Sv Go Go.Pl
theorem UC{P:Program}{C:Ctx}{c:Code}{st:St}{Q:aV}(t:Nat)(h:Sv.get st.fr t=some (.val (.slice none 0 0)))(h':ae P C c ⟨st.n,(t,.ro [])::st.fr,st.M⟩ Q):ae P C c st Q:=by
 rintro a w ⟨β,H,hF,hW⟩;refine h' a w ⟨β,H,⟨hF.1,hF.2.1,fun t' x hg=>?_⟩,hW⟩;simp only[Sv.get]at hg;split at hg
 ·rename_i e;subst e;simp only[Option.some.injEq]at hg;subst hg;obtain⟨v,h1,h2⟩:=hF.2.2 t _ h;simp only[Den]at h2;exact⟨v,h1,by simp only[Den];exact .inl ⟨trivial,_,_,h2.1⟩⟩
 ·exact hF.2.2 t' x hg
theorem Wq{x y:Int}(h:0≤x):x.tdiv y=x / y:=aom h
theorem E1{n x V:Nat}(hn:n≠0):(x+10000*V) / n=(x+10000*(V % n)) / n+10000*(V / n)∧(x+10000*V) % n=(x+10000*(V % n)) % n:=by
 have h:=aob V n;have e:x+10000*V=x+10000*(V % n)+n*(10000*(V / n)):=by
  conv=>lhs;rw[←h]
  grind
 rw[e,Nat.add_mul_div_left _ _ (by omega),Nat.add_mul_mod_self_left];exact⟨rfl,rfl⟩
theorem yq(m n:Nat)(hn:n≠0)(hm:wid 10000 m≤1000000000000)(hn':wid 10000 n≤1000000000000) :
  aI Tryz.prog 162 [.ro ((bB 10000 m).map i64),.ro ((bB 10000 n).map i64)] (.bG [.ro ((bB 10000 (m / n)).map i64),.ro ((bB 10000 (m % n)).map i64)]):=by
 refine aj Tryz.func162 rfl (by simp) (fun C hC=>?_);have B2:2≤10000:=by omega
 have vm:=bX B2 m;have lm:=cQ B2 m;have vn:=bX B2 n;have ln:=cQ B2 n;simp only[wid]at hm;generalize bB 10000 m=a at *;subst vm;simp(disch:=omega)[aP];refine⟨by omega,?_⟩;refine UC 7 rfl ?_;refine ae.loop (ι:=Nat × List Nat)
  (fun⟨i,o⟩=>⟨66,[(0,.ro (a.map i64)),(1,.ro ((bB 10000 n).map i64)),(6,.view 0 0 a.length),(7,.ro ((bB 10000 (val 10000 (a.drop i) % n)).map i64)),(8,.val (.int .i64 ((i:Int) - 1)))],[some ⟨1,o.map i64,false⟩]⟩)
  (fun⟨i,o⟩=>i≤a.length∧o.length=a.length∧(∀d∈o,d<10000)∧val 10000 (o.drop i)=val 10000 (a.drop i) / n)
  (fun⟨i,o⟩=>i) (a.length,alZ a.length 0) ?_ ?_ ?_
 ·refine⟨by omega,by simp,by simp,?_⟩;simp[val]
 ·simp[ar,hC,val,bf]
 ·rintro⟨i,o⟩ ⟨h1,h2,h3,h4⟩;cases i with
  | zero =>
   simp(disch:=omega)[aP,hC];refine aZ (nV o (by omega)) (by simp[anE,h2]) ?_;have e:cu o=bB 10000 (val 10000 a / n):=by rw[←fT (by omega) o h3];simp at h4;rw[h4]
   simp[e]
  | succ i =>
   obtain⟨V,hV⟩:∃V,V=val 10000 (a.drop (i+1)):=⟨_,rfl⟩;have bx:=dV lm (by omega) i;have hVi:val 10000 (a.drop i)=dg a i+10000*V:=by rw[di,hV]
   obtain⟨r,hr⟩:∃r,r=dg a i+10000*(V % n):=⟨_,rfl⟩;obtain⟨s1,s2⟩:=E1 (x:=dg a i) (V:=V) hn;rw[←hr,←hVi]at s1 s2;simp only[←hV]at h4 ⊢;have hvn:V % n<n:=amt _ (by omega);have hrn:r<10000*n:=by omega
   have wr:wid 10000 r≤1000000000002:=by
    have:=zc (B:=10000) (by omega) 10000 n;have e2:wid 10000 10000≤2:=gZ (by omega) (by omega);have:=bY (B:=10000) (by omega) (show r≤10000*n by omega);omega
   have lr:(bB 10000 (V % n)).length≤1000000000000:=amQ (bY (B:=10000) (by omega) (show V % n≤n by omega)) hn';have er:cu (dg a i::bB 10000 (V % n))=bB 10000 r:=by
    rw[←fT (by omega) _ (by
     intro d hd;rcases List.mem_cons.1 hd with rfl | hd
     ·exact bx
     ·exact cQ B2 _ d hd)]
    rw[val,bX B2,hr]
   have ht:=nV (dg a i::bB 10000 (V % n)) (by simp;omega);rw[er]at ht;simp(disch:=omega)[aP,hC,dQ];refine⟨by omega,by omega,?_⟩;refine aZ ht (by simp[anE,Nat.add_comm]) ?_;simp;refine ae.loop (ι:=Nat × Nat)
    (fun⟨l,h⟩=>⟨66,[(0,.ro (a.map i64)),(1,.ro ((bB 10000 n).map i64)),(6,.view 0 0 a.length),(7,.ro ((bB 10000 r).map i64)),(8,.val (.int .i64 i)),(9,.val (.int .i64 l)),(10,.val (.int .i64 h))],[some ⟨1,o.map i64,false⟩]⟩)
    (fun⟨l,h⟩=>l≤r / n∧r / n≤h∧h≤9999) (fun⟨l,h⟩=>h - l) (0,9999) ?_ ?_ ?_
   ·refine⟨Nat.zero_le _,?_,by omega⟩;have:=(Nat.div_lt_iff_lt_mul (ang hn)).2 hrn;omega
   ·simp[ar,hC]
   ·rintro⟨l,h⟩ ⟨g1,g2,g3⟩;have tim:∀k:Nat,k<10000→aI Tryz.prog 166 [.ro ((bB 10000 n).map i64),.val (.int .i64 k)] (.ro ((bB 10000 (n*k)).map i64)):=fun k hk=>by
     have:=FW (bB 10000 n) k ln hk (amQ hn' (by omega))
     rwa [vn]at this
    have wk:∀k:Nat,k<10000→wid 10000 (n*k)≤1000000000001:=fun k hk=>by
     have:=zc (B:=10000) (by omega) n k;have e2:wid 10000 k≤1:=gZ (by omega) (by omega);omega
    by_cases hlh:l<h
    ·obtain⟨k,hk⟩:∃k,k=(l+h+1) / 2:=⟨_,rfl⟩;have hk':((l:Int)+h+1).tdiv 2=k:=by rw[Wq (by omega)];omega
     simp(disch:=omega)[aP,hC,hlh,hk'];refine aZ (tim k (by omega)) (by simp) ?_;simp;refine aZ (vQ (n*k) r (amQ (wk k (by omega)) (by omega)) (amQ wr (by omega))) (by simp) ?_;have kk:n*k≤r↔k≤r / n:=by rw[Nat.le_div_iff_mul_le (ang hn),anl]
     by_cases hc:n*k≤r
     ·have e0:dZ (n*k) r≤0:=by unfold dZ;split<;>(try split)<;>omega
      simp[e0];exact⟨k,h,⟨kk.1 hc,g2,g3⟩,by omega,by simp[ar,hC]⟩
     ·have e0:¬dZ (n*k) r≤0:=by unfold dZ;rw[if_neg (by omega),if_pos (by omega)];omega
      have e1:((k:Int) - 1)=((k - 1:Nat):Int):=by omega
      have nk:¬k≤r / n:=fun h=>hc (kk.2 h);simp(disch:=omega)[e0,aP];exact⟨l,k - 1,⟨g1,by omega,by omega⟩,by omega,by simp[ar,hC,e1]⟩
    ·have hl:l=r / n:=by omega
     simp(disch:=omega)[aP,hC,hlh,dQ,II, -anF];refine⟨by omega,by omega,?_⟩;have l9:l<10000:=by omega
     refine aZ (tim l l9) (by simp) ?_;simp;have hll:n*l≤r:=by rw[hl];exact Nat.mul_div_le r n
     refine aZ (v3 r (n*l) hll (amQ wr (by omega))) (by simp) ?_;have e5:r - n*l=r % n:=by have:=aob r n;rw[hl];omega
     simp only[e5];simp(disch:=omega)[aP,hC];refine⟨i,o.set i l,⟨by omega,by simpa using h2,jO i h3 l9,?_⟩,by omega,?_⟩
     ·rw[di,eY,h4,s1];have:dg (o.set i l) i=l:=by simp[dg,aoB,List.getElem?_set_self (show i<o.length by omega)]
      rw[this,hl]
     ·simp[ar,hC,s2]
end Go.Proofs
namespace Go.Proofs
open Go.Sv Go Go.Pl
theorem zZ{x y:Int}(h:y.natAbs≤x.natAbs)(hx:eE x):eE y:=amQ (bY (by omega) h) hx
theorem uX{x:Int}(h:x.natAbs<10000^7):eE x:=amQ (gZ (by omega) h) (by omega)
theorem lP(b:Bool)(n:Nat)(h:wid 10000 n≤1000000000000):aI Tryz.prog 90 [.val (.bool b),.ro ((bB 10000 n).map i64)] (eJ (if b=true then -(n:Int) else(n:Int))):=by
 have:=nO b (bB 10000 n) (by simp only[wid]at h;omega) (cQ (by omega) n)
 rwa [bX (by omega)]at this
theorem vJ(x y:Int)(hx:eE x)(hy:eE y) :
  aI Tryz.prog 141 [eJ x,eJ y] (.bG [eJ (x / y),eJ (if y=0 then 0 else x % y),.val (.bool (decide (y≠0)))]):=by
 refine aj Tryz.func141 rfl (by simp) (fun C hC=>?_);by_cases h0:y=0
 ·subst h0;simp[eJ,bf]
 ·have hy0:y.natAbs≠0:=by omega
  have hne:¬(bB 10000 y.natAbs)=[]:=fun h=>hy0 ((bL (by omega)).1 h);have hq1:x.natAbs / y.natAbs≤x.natAbs:=Nat.div_le_self _ _;have hr1:x.natAbs % y.natAbs≤x.natAbs:=Nat.mod_le _ _;have hr2:=amt x.natAbs (show 0<y.natAbs by omega);have hdm:=aob x.natAbs y.natAbs;have hl:=yq x.natAbs y.natAbs hy0 hx hy;generalize x.natAbs / y.natAbs=Q at *;generalize x.natAbs % y.natAbs=R at *;have hm1:=lP (decide (x<0) != decide (y<0)) Q (amQ (bY (by omega) hq1) hx);have hm2:=lP (decide (x<0)) R (amQ (bY (by omega) hr1) hx);obtain⟨q,hq⟩:∃q,q=(if(decide (x<0) != decide (y<0))=true then -(Q:Int) else(Q:Int)):=⟨_,rfl⟩;obtain⟨r,hr⟩:∃r,r=(if decide (x<0)=true then -(R:Int) else(R:Int)):=⟨_,rfl⟩;rw[←hq]at hm1;rw[←hr]at hm2;have hxq:x=r+y*q:=by
   have hdm':(y.natAbs:Int)*Q+R=x.natAbs:=by rw[←anW,←Int.natCast_add,hdm]
   by_cases h1:x<0<;>by_cases h2:y<0
   ·have e1:(x.natAbs:Int) = -x:=by omega
    have e2:(y.natAbs:Int) = -y:=by omega
    rw[e1,e2]at hdm';simp[h1,h2]at hq hr;subst hq hr;grind
   ·have e1:(x.natAbs:Int) = -x:=by omega
    have e2:(y.natAbs:Int)=y:=by omega
    rw[e1,e2]at hdm';simp[h1,h2]at hq hr;subst hq hr;grind
   ·have e1:(x.natAbs:Int)=x:=by omega
    have e2:(y.natAbs:Int) = -y:=by omega
    rw[e1,e2]at hdm';simp[h1,h2]at hq hr;subst hq hr;grind
   ·have e1:(x.natAbs:Int)=x:=by omega
    have e2:(y.natAbs:Int)=y:=by omega
    rw[e1,e2]at hdm';simp[h1,h2]at hq hr;subst hq hr;grind
  have hra:r.natAbs=R:=by rw[hr];split<;>omega
  have hqa:q.natAbs=Q:=by rw[hq];split<;>omega
  have fq:eE q:=zZ (x:=x) (by omega) hx;have fr:eE r:=zZ (x:=x) (by omega) hx;simp[eJ,hne,h0];refine aZ hl (by simp) ?_;simp;refine aZ hm1 (by simp[bne]) ?_;simp;refine aZ hm2 (by simp) ?_;by_cases hr0:r<0
  ·have ha:=uc r (y.natAbs:Int) fr (by simpa[eE]using hy);have hyn:¬(y.natAbs:Int)<0:=by omega
   simp[eJ,hr0,bne];refine aZ ha (by simp[eJ,hr0]) ?_;simp[eJ];by_cases hy1:y<0
   ·obtain⟨u1,u2⟩:=Gd (x:=x) (y:=y) (q:=q+1) (r:=r+y.natAbs) h0 (by rw[hxq];grind) (by omega) (by omega);have hy2:¬(0:Int)≤y:=by omega
    simp[hy1,hy2];refine ae.alS (.qs [0]<|.l 1 []<|.l 2 []<|.l 3 [4]<|.nil) ?_;simp;refine aZ (jg 1 (by omega) (by omega)) (by simp) ?_;simp[eJ];refine aZ (uc q 1 fq (uX (by simp))) (by simp[eJ]) ?_;simp[eJ];refine ae.alS (.qs [0]<|.q 1 [2]<|.l 2 [2]<|.l 3 [3]<|.qs [4]<|.nil) ?_;simp[eJ,u1,u2,h0];try omega
   ·obtain⟨u1,u2⟩:=Gd (x:=x) (y:=y) (q:=q - 1) (r:=r+y.natAbs) h0 (by rw[hxq];grind) (by omega) (by omega);have hy2:0≤y:=by omega
    simp[hy1,hy2];refine ae.alS (.qs [0]<|.l 1 []<|.l 2 []<|.l 3 [4]<|.nil) ?_;simp;refine aZ (jg 1 (by omega) (by omega)) (by simp) ?_;simp[eJ];refine aZ (J4 q 1 fq (uX (by simp))) (by simp[eJ]) ?_;simp[eJ];refine ae.alS (.qs [0]<|.q 1 [2]<|.l 2 [2]<|.l 3 [3]<|.qs [4]<|.nil) ?_;simp[eJ,u1,u2,h0];try omega
  ·obtain⟨u1,u2⟩:=Gd (x:=x) (y:=y) (q:=q) (r:=r) h0 hxq (by omega) (by omega);simp[eJ,hr0,bne];refine ae.alS (.qs [0]<|.q 1 [2]<|.l 2 [2]<|.l 3 [3]<|.qs [4]<|.nil) ?_;simp[eJ,u1,u2,h0];try omega
theorem K5(x y:Int)(hx:eE x)(hy:eE y):aI Tryz.prog 140 [eJ x,eJ y] (eJ (aoj x y:Nat)):=by
 refine aj Tryz.func140 rfl (by simp) (fun C hC=>?_);have e:aoj x y=Nat.gcd x.natAbs y.natAbs:=rfl;have hnn:¬((aoj x y:Nat):Int)<0:=by omega
 simp[eJ];refine ae.loop (ι:=Nat × Nat) (fun⟨m,n⟩=>⟨26,[(4,.ptr 2 0 0),(5,.ro ((bB 10000 m).map i64)),(6,.ro ((bB 10000 n).map i64))],
   [none,none,some ⟨2,[.agg [.val (.bool false),.val (.slice none 0 0)]],false⟩]⟩)
  (fun⟨m,n⟩=>wid 10000 m≤1000000000000∧wid 10000 n≤1000000000000∧Nat.gcd m n=aoj x y) (fun⟨m,n⟩=>n) (x.natAbs,y.natAbs) ?_ ?_ ?_
 ·exact⟨hx,hy,e.symm⟩
 ·simp[ar,hC]
 ·rintro⟨m,n⟩ ⟨h1,h2,h3⟩;by_cases hn:n=0
  ·subst hn;simp at h3;simp[bf,h3]
  ·have hpos:0<(bB 10000 n).length:=anB.2 fun h=>hn ((bL (by omega)).1 h);simp[hpos];refine aZ (yq m n hn h1 h2) (by simp) ?_;simp;have aF:=amt m (show 0<n by omega);refine⟨n,m % n,⟨h2,amQ (bY (by omega) (by omega)) h2,by rw[aoe n,←Nat.gcd_rec,aoe,h3]⟩,aF,by simp[ar,hC]⟩
end Go.Proofs
namespace Go.Proofs
open Go.Sv Go Go.Pl
def sb(L:List Nat):ByteArray:=strOf (L.map u8)
theorem y7(L:List Nat):(sb L).data.toList=L.map UInt8.ofNat:=by
 unfold sb strOf;rw[strOfNums_data];simp[uK]
theorem yK(L R:List Nat):sb L++sb R=sb (L++R):=by
 apply ByteArray.ext;apply Array.toList_inj.1;simp[y7]
@[simp] theorem mq(L:List Nat):(sb L).size=L.length:=by
 have:=congrArg List.length (y7 L);simpa using this
theorem N1{L:List Nat}{i:Nat}(h:i<L.length)(hL:∀d∈L,d<256):(eG (sb L) i).toNat=dg L i:=by
 unfold eG;rw[Array.getD_eq_getD_getElem?,←Array.getElem?_toList,y7];simp[h,dg,aoB];exact hL _ (List.getElem_mem h)
def f4(x:Nat):List Nat:=[x % 10,x / 10 % 10,x / 100 % 10,x / 1000]
def L4(l:List Nat):List Nat:=l.flatMap f4
theorem adG(l:List Nat):(L4 l).length=4*l.length:=by
 induction l with
 | nil=>rfl
 | cons x l ih =>
  have e:L4 (x::l)=f4 x++L4 l:=rfl;rw[e];simp[ih,f4];omega
theorem ahb{x y:Int}(h:0≤x):x.tmod y=x % y:=aog h
end Go.Proofs
namespace Go.Proofs
open Go.Sv Go Go.Pl
theorem FE(c:Nat)(hc:c<256):aI Tryz.prog 161 [.val (.int .u8 c)] (.val (.bool (decide (mP c)))):=by
 refine aj Tryz.func161 rfl (by simp) (fun C hC=>?_);rw[show decide (mP c)=(decide ((48:Int)≤c)&&decide ((c:Int)≤57)) by rw[←Bool.decide_and];congr 1;simp[mP];omega];by_cases h1:(48:Int)≤c<;>by_cases h2:(c:Int)≤57<;>simp[h1,h2]
def eS(c:Nat)(a:Int):SV:=.agg [.val (.int .i64 c),.val (.int .i64 a)]
theorem vP(s:ByteArray)(a b:Nat):∀k,nv s a (b+k)=nv s a b*10^k+nv s (a+b) k
 | 0=>by simp[nv]
 | k+1=>by
  have ih:=vP s a b k;rw[←amj];simp only[nv,ih,anj,amj];grind
theorem pt(t:ByteArray)(ht:t.size≤900000000000)(hd:∀i,i<t.size→bj t i):aI Tryz.prog 135 [.val (.string t)] (eJ (nv t 0 t.size:Nat)):=by
 refine aj Tryz.func135 rfl (by simp) (fun C hC=>?_);simp;refine ae.nil 3 1 rfl ?_;refine ae.loop (ι:=Int × List Nat) (fun⟨to,d⟩=>⟨36,[(0,.val (.string t)),(2,.ptr 0 0 0),(3,.view 1 0 d.length),(4,.val (.int .i64 to))],
   [some ⟨2,[.agg [.val (.bool false),.val (.slice none 0 0)]],false⟩,some ⟨1,d.map i64,false⟩]⟩)
  (fun⟨to,d⟩ => -4<to∧to+4*d.length=t.size∧(∀x∈d,x<10000)∧val 10000 d+10000^d.length*nv t 0 to.toNat=nv t 0 t.size)
  (fun⟨to,d⟩=>(to+4).toNat) ((t.size:Int),[]) ?_ ?_ ?_
 ·exact⟨by omega,by simp,by simp,by simp[val]⟩
 ·simp[ar,hC]
 ·rintro⟨to,d⟩ ⟨h1,h2,h3,h4⟩;by_cases h0:0<to
  ·have tn:(to.toNat:Int)=to:=by omega
   obtain⟨a,hA⟩:∃a,a=(to - 4).toNat:=⟨_,rfl⟩;have hdl:d.length≤900000000000:=by omega
   simp(disch:=omega)[h0,aP];refine ae.loop (ι:=Int × Nat) (fun⟨i,x⟩=>⟨36,[(0,.val (.string t)),(2,.ptr 0 0 0),(3,.view 1 0 d.length),(4,.val (.int .i64 to)),(5,.val (.int .i64 x)),(6,.val (.int .i64 i))],
     [some ⟨2,[.agg [.val (.bool false),.val (.slice none 0 0)]],false⟩,some ⟨1,d.map i64,false⟩]⟩)
    (fun⟨i,x⟩=>to - 4≤i∧i≤to∧x=nv t a (i.toNat - a)) (fun⟨i,x⟩=>(to - i).toNat) (to - 4,0) ?_ ?_ ?_
   ·refine⟨by omega,by omega,?_⟩;rw[←hA,Nat.sub_self];rfl
   ·simp[ar,hC]
   ·rintro⟨i,x⟩ ⟨g1,g2,g3⟩;have xl:∀k,a+k≤t.size→nv t a k<10^k:=fun k hk=>rA fun j j1 j2=>hd j (by omega);by_cases aF:i<to
    ·by_cases hi0:0≤i
     ·obtain⟨k,rfl⟩:∃k:Nat,i=k:=⟨i.toNat,by omega⟩;have hk:k<t.size:=by omega
      have hdk:=(hd k hk).2;unfold mP jB at hdk;have hx:x<1000:=by
       have:=xl (k - a) (by omega);have:(10:Nat)^(k - a)≤10^3:=ano (by omega) (by omega);rw[g3];simp only[aoC];omega
      obtain⟨c,hc⟩:∃c,c=(eG t k).toNat - 48:=⟨_,rfl⟩;have hc':IntKind.u8.wrap (((eG t k).toNat:Int) - 48)=c:=by rw[L5];omega
      have st:10*x+c=nv t a (k+1 - a):=by
       have e:k+1 - a=(k - a)+1:=by omega
       have e2:a+(k - a)=k:=by omega
       rw[e];simp only[nv,e2];simp only[aoC]at g3;unfold jB;rw[←g3,hc];omega
      simp(disch:=omega)[aF,hi0,aP,hc',hk];exact⟨k+1,10*x+c,⟨by omega,by omega,by rw[st];congr 1⟩,by omega,by simp[ar,hC]⟩
     ·have hi1:¬(0:Int)≤i:=hi0;have a0:a=0:=by omega
      simp(disch:=omega)[aF,hi0,aP];exact⟨i+1,x,⟨by omega,by omega,by rw[g3,a0];congr 1;omega⟩,by omega,by simp[ar,hC]⟩
    ·have hit:i=to:=by omega
     subst hit;have sp:=vP t 0 a (i.toNat - a);rw[show a+(i.toNat - a)=i.toNat by omega,Nat.zero_add,←g3]at sp;have hx:x<10000:=by
      have:=xl (i.toNat - a) (by omega);have:(10:Nat)^(i.toNat - a)≤10^4:=ano (by omega) (by omega);omega
     have sp2:nv t 0 i.toNat=x+10000*nv t 0 a:=by
      by_cases h44:4≤i
      ·rw[sp,show i.toNat - a=4 by omega];omega
      ·have a0:a=0:=by omega
       rw[sp,a0];simp[nv]
     simp(disch:=omega)[aP,hC];refine⟨by omega,i - 4,d++[x],⟨by omega,by simp;omega,mC h3 hx,?_⟩,by omega,by simp[ar,hC]⟩;rw[←hA,cP,List.length_append,List.length_singleton,anj,←h4,sp2];simp only[val];grind
  ·have e0:to.toNat=0:=by omega
   rw[e0]at h4;have h5:val 10000 d=nv t 0 t.size:=by simpa[nv]using h4
   have hm:=nO false d (by omega) h3;rw[h5]at hm;simp[h0];refine aZ hm (by simp[anE]) ?_;simp
end Go.Proofs
namespace Go.Proofs
open Go.Sv Go Go.Pl
end Go.Proofs

