/- A text of the prover's own. -/
import Derived.Test.YtmghjkkjaolpgaaGreatDoorWFs
open List renaming length_pos_iff→ams,getElem?_eq_getElem→akZ,getD_eq_getElem?_getD→ant,eq_nil_or_concat→amq,take_of_length_le→amv,drop_eq_nil_of_le→amt,replicate→akQ,map_set→amw,mem_cons→alF,nil_append→anu
open Int renaming lt_trichotomy→amM,tmod_eq_emod_of_nonneg→am7,tdiv_eq_ediv_of_nonneg→ane,natCast_mul→amN,gcd→ana,toNat_natCast→anv
open Nat renaming mul_comm→amd,mul_le_mul→amK,pow_succ→amb,le_trans→alJ,sub_le→anw,mod_lt→alk,add_assoc→ala,div_add_mod→am2,pos_of_ne_zero→al8,gcd_comm→am5,pow_le_pow_right→amg
set_option maxRecDepth 20000
namespace Go.Proofs
open Go.Sv Go Go.Pl
def dY(x:Int):SV:=.agg [.val (.bool (decide (x<0))),.ro ((bC 10000 x.natAbs).map i64)]
@[simp] theorem Zl(x:Int):(dY x).eW=2:=rfl
@[simp] theorem OM(x:Int):(dY x).aO=false:=rfl
@[simp] theorem QM(x:Int):(dY x).isAgg=true:=rfl
@[simp] theorem WM(x:Int):(dY x).pure=true:=rfl
@[simp] theorem aeT(n:Nat)(x:Int):(dY x).lt n=true:=rfl
@[simp] theorem aeS(x:Int):(dY x).ks=[]:=rfl
@[simp] theorem aaB(M:aJ)(x:Int)(y:SV):Sub M (dY x) y=(y=dY x):=by
 cases y with
 | agg l =>
  match l with
  | []=>simp[dY,Sv.Sub,cz]
  | [a]=>simp[dY,Sv.Sub,cz]
  | a::b::c::r=>simp[dY,Sv.Sub,cz]
  | [a,b]=>cases a<;>simp[dY,Sv.Sub,cz];intro _;exact eq_comm
 | _=>simp[dY,Sv.Sub]
theorem y8(x:Int):0<(bC 10000 x.natAbs).length↔x≠0:=by
 rw[ams,ne_eq,bR (by omega)];omega
theorem Fv{l:List Nat}{k:Nat}(h:k<l.length):l.take (k+1)=l.take k++[dg l k]:=by
 rw[List.take_add_one,akZ h];simp[dg,ant,akZ h]
theorem og(xs:List Nat)(h:xs.length≤4398046511104):aF Tryz.prog 144 [.ro (xs.map i64)] (.ro ((cj xs).map i64)):=by
 refine aj Tryz.func144 rfl (by simp) (fun C hC=>?_);simp;refine aa.loop (ι:=Nat) (fun n=>⟨21,[(0,.ro (xs.map i64)),(3,.val (.int .i64 n))],[]⟩) (fun n=>n≤xs.length∧cj (xs.take n)=cj xs) (fun n=>n) xs.length ?_ ?_ ?_
 ·simp
 ·simp[aw]
 ·rintro n ⟨hl,ht⟩;cases n with
  | zero =>
   simp[cj]at ht;simp[←ht]
  | succ k =>
   have tk:=Fv (l:=xs) (k:=k) (by omega);by_cases hz:dg xs k=0
   ·rw[tk,hz,ku]at ht;simp(disch:=omega)[aN,dE,hz];refine⟨by omega,k,⟨by omega,ht⟩,by omega,by simp[aw,hC]⟩
   ·have hz':¬(dg xs k:Int)=0:=by omega
    rw[tk,mX _ hz,←tk]at ht;simp(disch:=omega)[aN,dE,hz',hz];refine⟨by omega,by omega,?_⟩;rw[←List.map_take,ht]
theorem nX(b:Bool)(xs:List Nat)(h:xs.length≤4398046511104)(hx:∀d∈xs,d<10000) :
  aF Tryz.prog 90 [.val (.bool b),.ro (xs.map i64)] (dY (if b=true then -(val 10000 xs:Int) else(val 10000 xs:Int))):=by
 refine aj Tryz.func90 rfl (by simp) (fun C hC=>?_);simp;refine ba (og xs h) (by simp) ?_;rw[←fp (by omega) xs hx];generalize val 10000 xs=n;cases b with
 | false=>
  simp[dY]
 | true =>
  simp[dY,ams,bR];by_cases h:n=0<;>simp[h];omega
theorem Iy(x:Int):aF Tryz.prog 67 [dY x] (.val (.int .i64 x.sign)):=by
 refine aj Tryz.func67 rfl (by simp) (fun C hC=>?_);simp[dY,bR];refine⟨fun h=>by simp[h],fun _=>⟨fun h=>(Int.sign_eq_neg_one_of_neg h).symm,fun h=>(Int.sign_eq_one_of_pos (by omega)).symm⟩⟩
theorem qG(x:Int):aF Tryz.prog 139 [dY x] (dY (-x)):=by
 refine aj Tryz.func139 rfl (by simp) (fun C hC=>?_);simp[dY,y8];refine⟨fun h=>?_,fun h=>by omega⟩;by_cases h0:x=0
 ·simp[h0]
 ·have:0<x:=by omega
  simp[h0,this]
theorem wG(m n:Nat)(hm:wid 10000 m≤4398046511104)(hn:wid 10000 n≤4398046511104) :
  aF Tryz.prog 91 [.ro ((bC 10000 m).map i64),.ro ((bC 10000 n).map i64)] (.val (.int .i64 (dV m n))):=by
 refine aj Tryz.func91 rfl (by simp) (fun C hC=>?_);have vm:=cr (B:=10000) (by omega) m;have vn:=cr (B:=10000) (by omega) n;have lm:=cS (B:=10000) (by omega) m;have ln:=cS (B:=10000) (by omega) n;simp only[wid]at hm hn;simp;refine⟨fun hne=>⟨fun az=>?_,fun hge=>?_⟩,fun he=>?_⟩
 ·simp[dV,o7 (by omega) az]
 ·have:=o7 (B:=10000) (m:=n) (n:=m) (by omega) (by omega);simp[dV,this];omega
 ·refine aa.loop (ι:=List Nat × List Nat × List Nat) (fun⟨la,lb,r⟩=>⟨41,[(0,.ro ((la++r).map i64)),(1,.ro ((lb++r).map i64)),(5,.val (.int .i64 ((la.length:Int) - 1)))],[]⟩)
   (fun⟨la,lb,r⟩=>bC 10000 m=la++r∧bC 10000 n=lb++r∧la.length=lb.length) (fun⟨la,lb,r⟩=>la.length) (bC 10000 m,bC 10000 n,[]) ?_ ?_ ?_
  ·simp;omega
  ·simp(disch:=omega)[aw,aN]
  ·rintro⟨la,lb,r⟩ ⟨h1,h2,h3⟩;rcases amq la with rfl | ⟨la,x,rfl⟩
   ·have:lb=[]:=by cases lb<;>simp_all
    subst this;simp;have:m=n:=by rw[←vm,←vn,h1,h2]
    simp[dV,this]
   ·rcases amq lb with rfl | ⟨lb,y,rfl⟩
    ·simp at h3
    simp at h1 h2 h3;simp[h3];have hl:lb.length<4398046511104:=by rw[h2]at hn;simp at hn;omega
    refine aa.akJ (.qs [0,1,2,3,4,5,6,7,8] .nil) ?_;have c1:x<y→m<n:=fun h=>by rw[←vm,←vn,h1,h2];exact uo (fun d hd=>lm d (by rw[h1];simp[hd])) h3 h
    have c2:y<x→n<m:=fun h=>by rw[←vm,←vn,h1,h2];exact uo (fun d hd=>ln d (by rw[h2];simp[hd])) h3.symm h
    simp(disch:=omega)[tX,aN];refine⟨by omega,by omega,fun az=>?_,fun hge=>?_⟩
    ·simp[dV,c1 az]
    ·refine aa.draw (.qs [0,1,2,3,4,5,6,7,8] .nil) (by kernel_rfl) (by kernel_rfl) (by simp) ?_;simp(disch:=omega)[tX,aN];refine⟨by omega,by omega,fun az=>?_,fun hge'=>?_⟩
     ·have:=c2 (by omega);simp[dV,this];omega
     ·refine⟨la,lb,y::r,?_⟩;have he:x=y:=by omega
      simp[h1,h2,h3,he,aw,hC]
theorem Kq(x y:Int)(hm:wid 10000 x.natAbs≤4398046511104)(hn:wid 10000 y.natAbs≤4398046511104) :
  aF Tryz.prog 55 [dY x,dY y] (.val (.int .i64 (if x<y then -1 else if y<x then 1 else 0))):=by
 refine aj Tryz.func55 rfl (by simp) (fun C hC=>?_);have hc:=wG _ _ hm hn;by_cases hx:x<0<;>by_cases hy:y<0<;>simp[dY,hx,hy]
 ·refine ba hc (by simp) ?_;rcases amM x y with h | h | h
  ·have e:dV x.natAbs y.natAbs=1:=by rw[dV,if_neg (by omega),if_pos (by omega)]
   simp[e,h,aN]
  ·subst h;simp[dV,aN]
  ·have e:dV x.natAbs y.natAbs = -1:=by rw[dV,if_pos (by omega)]
   have:¬x<y:=by omega
   simp[e,h,this,aN]
 ·omega
 ·omega
 ·refine ba hc (by simp) ?_;rcases amM x y with h | h | h
  ·have e:dV x.natAbs y.natAbs = -1:=by rw[dV,if_pos (by omega)]
   simp[e,h]
  ·subst h;simp[dV]
  ·have e:dV x.natAbs y.natAbs=1:=by rw[dV,if_neg (by omega),if_pos (by omega)]
   have:¬x<y:=by omega
   simp[e,h,this]
theorem T9{o r l:List Nat}(h:l=o++r):o.length≤l.length:=by rw[h];simp
theorem Jy{m:Nat}(h:m≤9223372036854775808):(bC 10000 m).length≤5:=ir (by omega) (by omega)
theorem gn(n:Int)(h1 : -9223372036854775807≤n)(h2:n≤9223372036854775807):aF Tryz.prog 136 [.val (.int .i64 n)] (dY n):=by
 refine aj Tryz.func136 rfl (by simp) (fun C hC=>?_);have hl:=Jy (m:=n.natAbs) (by omega);by_cases hn:n<0
 ·simp(disch:=omega)[hn,aN];refine aa.nil 4 1 rfl ?_;refine aa.loop (ι:=Nat × List Nat) (fun⟨m,o⟩=>⟨22,[(0,.val (.int .i64 m)),(2,.ptr 0 0 0),(3,.val (.bool true)),(4,.view 1 0 o.length)],
    [some ⟨2,[.agg [.val (.bool false),.val (.slice none 0 0)]],false⟩,some ⟨1,o.map i64,false⟩]⟩)
   (fun⟨m,o⟩=>m≤9223372036854775807∧bC 10000 n.natAbs=o++bC 10000 m) (fun⟨m,o⟩=>m) (n.natAbs,[]) ?_ ?_ ?_
  ·exact⟨by omega,by simp⟩
  ·simp[aw,hC];omega
  ·rintro⟨m,o⟩ ⟨g1,g2⟩;have ho:=T9 g2;by_cases hm:m=0
   ·subst hm;simp[aZ]at g2;simp[dY,hn,g2,amv]
   ·obtain⟨d,hd⟩:∃d,d=m % 10000:=⟨_,rfl⟩;have e1:(m:Int).tmod 10000=d:=by rw[am7 (by omega)];omega
    have e2:(m:Int).tdiv 10000=(m / 10000:Nat):=by rw[ane (by omega)];omega
    have g3:bC 10000 n.natAbs=(o++[d])++bC 10000 (m / 10000):=by rw[g2,lB (by omega) (by omega),hd];simp
    have hm':0<m:=by omega
    simp(disch:=omega)[hm',e1,e2,aN,hC];refine⟨by omega,m / 10000,o++[d],⟨by omega,g3⟩,by omega,by simp[aw,hC]⟩
 ·simp(disch:=omega)[hn,aN];refine aa.nil 4 1 rfl ?_;refine aa.loop (ι:=Nat × List Nat) (fun⟨m,o⟩=>⟨22,[(0,.val (.int .i64 m)),(2,.ptr 0 0 0),(3,.val (.bool false)),(4,.view 1 0 o.length)],
    [some ⟨2,[.agg [.val (.bool false),.val (.slice none 0 0)]],false⟩,some ⟨1,o.map i64,false⟩]⟩)
   (fun⟨m,o⟩=>m≤9223372036854775807∧bC 10000 n.natAbs=o++bC 10000 m) (fun⟨m,o⟩=>m) (n.natAbs,[]) ?_ ?_ ?_
  ·exact⟨by omega,by simp⟩
  ·simp[aw,hC];omega
  ·rintro⟨m,o⟩ ⟨g1,g2⟩;have ho:=T9 g2;by_cases hm:m=0
   ·subst hm;simp[aZ]at g2;simp[dY,hn,g2,amv]
   ·obtain⟨d,hd⟩:∃d,d=m % 10000:=⟨_,rfl⟩;have e1:(m:Int).tmod 10000=d:=by rw[am7 (by omega)];omega
    have e2:(m:Int).tdiv 10000=(m / 10000:Nat):=by rw[ane (by omega)];omega
    have g3:bC 10000 n.natAbs=(o++[d])++bC 10000 (m / 10000):=by rw[g2,lB (by omega) (by omega),hd];simp
    have hm':0<m:=by omega
    simp(disch:=omega)[hm',e1,e2,aN,hC];refine⟨by omega,m / 10000,o++[d],⟨by omega,g3⟩,by omega,by simp[aw,hC]⟩
end Go.Proofs
namespace Go.Proofs
open Go.Sv Go Go.Pl
def Nm(B n k:Nat)(x:SV):Prop:=∃l:List Nat,x=.ro (l.map i64)∧(∀d∈l,d<B)∧val B l=n∧l.length≤k
theorem sJ{x:Int}(h:0≤x):x.tmod 10000=x % 10000:=am7 h
theorem tt{x:Int}(h:0≤x):x.tdiv 10000=x / 10000:=ane h
theorem FV(a b:List Nat)(ha:∀d∈a,d<10000)(hb:∀d∈b,d<10000)(hla:a.length≤4398046511104)(hlb:b.length≤4398046511104) :
  m8 Tryz.prog 142 [.ro (a.map i64),.ro (b.map i64)] (Nm 10000 (val 10000 a+val 10000 b) (max a.length b.length+1)):=by
 refine aj Tryz.func142 rfl (by simp) (fun C hC=>?_);obtain⟨k,hk⟩:∃k,k=max a.length b.length:=⟨_,rfl⟩;obtain⟨s,hs⟩:∃s,s=val 10000 a+val 10000 b:=⟨_,rfl⟩;rw[←hk,←hs];simp;refine aa.nil 5 1 rfl ?_;refine aa.loop (ι:=List Nat × Nat)
  (fun⟨out,c⟩=>⟨52,[(0,.ro (a.map i64)),(1,.ro (b.map i64)),(5,.view 0 0 out.length),(6,.val (.int .i64 c)),(7,.val (.int .i64 out.length))],[some ⟨1,out.map i64,false⟩]⟩)
  (fun⟨out,c⟩=>out.length+c≤k+1∧c≤1∧(∀d∈out,d<10000) ∧
   val 10000 out+10000^out.length*(c+(val 10000 (a.drop out.length)+val 10000 (b.drop out.length)))=s)
  (fun⟨out,c⟩=>k+1 - out.length) ([],0) ?_ ?_ ?_
 ·simpa[val]using hs.symm
 ·simp[aw,hC]
 ·rintro⟨out,c⟩ ⟨h1,h2,h3,h4⟩;have bp:=dO ha (by omega) out.length;have bq:=dO hb (by omega) out.length;obtain⟨x,hx⟩:∃x,x=c+dg a out.length+dg b out.length:=⟨_,rfl⟩;have F1:∀d∈out++[x % 10000],d<10000:=mw h3 (by omega);have F2:val 10000 (out++[x % 10000])+10000^(out.length+1)*(x / 10000+(val 10000 (a.drop (out.length+1))+val 10000 (b.drop (out.length+1))))=s:=by
   rw[←h4,uG,df _ a out.length,df _ b out.length,hx];congr 2;omega
  by_cases h5:out.length<a.length
  ·by_cases h6:out.length<b.length
   ·simp(disch:=omega)[h5,h6,aN,hC,dE,sJ,tt];exact⟨by omega,out++[x % 10000],x / 10000,⟨by simp;omega,by omega,F1,by simpa using F2⟩,by simp;omega,by subst hx;simp[aw,hC]⟩
   ·have:=jn (l:=b) (i:=out.length) (by omega);rw[this]at hx;simp(disch:=omega)[h5,h6,aN,hC,dE,sJ,tt];exact⟨by omega,out++[x % 10000],x / 10000,⟨by simp;omega,by omega,F1,by simpa using F2⟩,by simp;omega,by subst hx;simp[aw,hC]⟩
  ·have ga:=jn (l:=a) (i:=out.length) (by omega);by_cases h6:out.length<b.length
   ·rw[ga]at hx;simp(disch:=omega)[h5,h6,aN,hC,dE,sJ,tt];exact⟨by omega,out++[x % 10000],x / 10000,⟨by simp;omega,by omega,F1,by simpa using F2⟩,by simp;omega,by subst hx;simp[aw,hC]⟩
   ·have gb:=jn (l:=b) (i:=out.length) (by omega);rw[ga,gb]at hx;by_cases hc:0<c
    ·have hc':c=1:=by omega
     subst hc';simp(disch:=omega)[h5,h6,aN,hC,sJ,tt];exact⟨by omega,out++[x % 10000],x / 10000,⟨by simp;omega,by omega,F1,by simpa using F2⟩,by simp;omega,by subst hx;simp[aw,hC]⟩
    ·have hc':c=0:=by omega
     subst hc';have e1:a.drop out.length=[]:=amt (by omega);have e2:b.drop out.length=[]:=amt (by omega);simp only[e1,e2,val]at h4;simp(disch:=omega)[h5,h6,aN,hC];exact⟨_,by simp[amv],out,rfl,h3,by simpa using h4,by omega⟩
theorem Eo(a:List Nat)(x:Nat)(ha:∀d∈a,d<10000)(hx:x<10000)(hla:a.length≤2000000000000) :
  aF Tryz.prog 166 [.ro (a.map i64),.val (.int .i64 x)] (.ro ((bC 10000 (val 10000 a*x)).map i64)):=by
 refine aj Tryz.func166 rfl (by simp) (fun C hC=>?_);obtain⟨s,hs⟩:∃s,s=val 10000 a*x:=⟨_,rfl⟩;rw[←hs];simp;refine aa.nil 5 1 rfl ?_;refine aa.loop (ι:=List Nat × Nat)
  (fun⟨out,c⟩=>⟨39,[(0,.ro (a.map i64)),(1,.val (.int .i64 x)),(5,.view 0 0 out.length),(6,.val (.int .i64 c)),(7,.val (.int .i64 out.length))],[some ⟨1,out.map i64,false⟩]⟩)
  (fun⟨out,c⟩=>(out.length≤a.length∨out.length=a.length+1∧c=0)∧c<10000∧(∀d∈out,d<10000) ∧
   val 10000 out+10000^out.length*(c+x*val 10000 (a.drop out.length))=s)
  (fun⟨out,c⟩=>a.length+1 - out.length) ([],0) ?_ ?_ ?_
 ·exact⟨.inl (by simp),by omega,by simp,by simp[val,hs,amd]⟩
 ·simp[aw,hC]
 ·rintro⟨out,c⟩ ⟨h1,h2,h3,h4⟩;have bp:=dO ha (by omega) out.length;obtain⟨p,hp⟩:∃p,p=dg a out.length*x:=⟨_,rfl⟩;have hp':p≤9999*9999:=by rw[hp];exact amK (by omega) (by omega)
  have hpz:(dg a out.length:Int)*x=p:=by rw[hp,amN]
  obtain⟨y,hy⟩:∃y,y=c+p:=⟨_,rfl⟩;have F1:∀d∈out++[y % 10000],d<10000:=mw h3 (by omega);have F2:val 10000 (out++[y % 10000])+10000^(out.length+1)*(y / 10000+x*val 10000 (a.drop (out.length+1)))=s:=by
   rw[←h4,uG,df _ a out.length,hy,hp];congr 2;grind
  by_cases h5:out.length<a.length
  ·simp(disch:=omega)[h5,aN,hC,dE,sJ,tt,hpz];exact⟨by omega,out++[y % 10000],y / 10000,⟨by simp;omega,by omega,F1,by simpa using F2⟩,by simp;omega,by subst hy;simp[aw,hC]⟩
  ·have ga:=jn (l:=a) (i:=out.length) (by omega);have hp0:p=0:=by rw[hp,ga];simp
   rw[hp0]at hy;by_cases hc:0<c
   ·simp(disch:=omega)[h5,hc,aN,hC,sJ,tt];exact⟨by omega,out++[y % 10000],y / 10000,⟨by simp;omega,by omega,F1,by simpa using F2⟩,by simp;omega,by subst hy;simp[aw,hC]⟩
   ·have hc':c=0:=by omega
    subst hc';have e1:a.drop out.length=[]:=amt (by omega);simp only[e1,val]at h4;simp(disch:=omega)[h5,aN,hC];refine ba (og out (by omega)) (by simp[amv]) ?_;have e:cj out=bC 10000 s:=by rw[←fp (by omega) out h3];simp at h4;rw[h4]
    simp[e]
end Go.Proofs
namespace Go.Proofs
open Go.Sv Go Go.Pl
theorem uH(m n:Nat)(hmn:n≤m)(hm:wid 10000 m≤4398046511104):aF Tryz.prog 143 [.ro ((bC 10000 m).map i64),.ro ((bC 10000 n).map i64)] (.ro ((bC 10000 (m - n)).map i64)):=by
 refine aj Tryz.func143 rfl (by simp) (fun C hC=>?_);have B2:2≤10000:=by omega
 have hp:=cS B2 m;have hq:=cS B2 n;have hlq:(bC 10000 n).length≤(bC 10000 m).length:=ch B2 hmn;obtain⟨T,hTd⟩:∃T,T=m - n:=⟨_,rfl⟩;have hT:val 10000 (bC 10000 m)=T+val 10000 (bC 10000 n):=by rw[cr B2,cr B2];omega
 rw[←hTd];simp only[wid]at hm;generalize bC 10000 m=p at *;generalize bC 10000 n=q at *;simp;refine aa.nil 5 1 rfl ?_;refine aa.loop (ι:=List Nat × Nat)
  (fun⟨o,c⟩=>⟨41,[(0,.ro (p.map i64)),(1,.ro (q.map i64)),(5,.view 0 0 o.length),(6,.val (.int .i64 c)),(7,.val (.int .i64 o.length))],[some ⟨1,o.map i64,false⟩]⟩)
  (fun⟨o,c⟩=>o.length≤p.length∧c≤1∧(∀d∈o,d<10000) ∧
   val 10000 o+10000^o.length*val 10000 (p.drop o.length)=T+10000^o.length*(c+val 10000 (q.drop o.length)))
  (fun⟨o,c⟩=>p.length - o.length) ([],0) ?_ ?_ ?_
 ·exact⟨by simp,by omega,by simp,by simpa[val]using hT⟩
 ·simp[aw,hC]
 ·rintro⟨o,c⟩ ⟨h1,h2,h3,h4⟩;have bp:=dO hp (by omega) o.length;have bq:=dO hq (by omega) o.length;by_cases az:o.length<p.length
  ·have key:∀u c',dg p o.length+10000*c'=u+dg q o.length+c→val 10000 (o++[u])+10000^(o.length+1)*val 10000 (p.drop (o.length+1))=T+10000^(o.length+1)*(c'+val 10000 (q.drop (o.length+1))):=by
    intro u c' e;rw[df _ p o.length,df _ q o.length]at h4;rw[cO,amb];simpa[val]using vY h4 e
   have fin:∀u c',dg p o.length+10000*c'=u+dg q o.length+c→u<10000→c'≤1 →
     (o++[u]).length≤p.length∧c'≤1∧(∀d∈o++[u],d<10000)∧val 10000 (o++[u])+10000^(o++[u]).length*val 10000 (p.drop (o++[u]).length)=T+10000^(o++[u]).length*(c'+val 10000 (q.drop (o++[u]).length)):=fun u c' e hu hc' =>
    ⟨by simp;omega,hc',mw h3 hu,by simpa using key u c' e⟩
   by_cases hlq':o.length<q.length
   ·by_cases hneg:dg p o.length<c+dg q o.length
    ·have hneg':(dg p o.length:Int) - c - dg q o.length<0:=by omega
     obtain⟨u,hu⟩:∃u:Nat,u=dg p o.length+10000 - c - dg q o.length:=⟨_,rfl⟩;have hu':(dg p o.length:Int) - c - dg q o.length+10000=u:=by omega
     simp(disch:=omega)[az,hlq',aN,hC,dE,hneg',hu'];exact⟨by omega,o++[u],1,fin u 1 (by omega) (by omega) (by omega),by simp;omega,by simp[aw,hC]⟩
    ·have hneg':¬(dg p o.length:Int) - c - dg q o.length<0:=by omega
     obtain⟨u,hu⟩:∃u:Nat,u=dg p o.length - c - dg q o.length:=⟨_,rfl⟩;have hu':(dg p o.length:Int) - c - dg q o.length=u:=by omega
     simp(disch:=omega)[az,hlq',aN,hC,dE,hneg',hu'];exact⟨by omega,by omega,o++[u],0,fin u 0 (by omega) (by omega) (by omega),by simp;omega,by simp[aw,hC]⟩
   ·have gq:=jn (l:=q) (i:=o.length) (by omega);by_cases hneg:dg p o.length<c
    ·have hneg':(dg p o.length:Int) - c<0:=by omega
     obtain⟨u,hu⟩:∃u:Nat,u=dg p o.length+10000 - c:=⟨_,rfl⟩;have hu':(dg p o.length:Int) - c+10000=u:=by omega
     simp(disch:=omega)[az,hlq',aN,hC,dE,hneg',hu'];exact⟨by omega,o++[u],1,fin u 1 (by omega) (by omega) (by omega),by simp;omega,by simp[aw,hC]⟩
    ·have hneg':¬(dg p o.length:Int) - c<0:=by omega
     obtain⟨u,hu⟩:∃u:Nat,u=dg p o.length - c:=⟨_,rfl⟩;have hu':(dg p o.length:Int) - c=u:=by omega
     simp(disch:=omega)[az,hlq',aN,hC,dE,hneg',hu'];exact⟨by omega,by omega,o++[u],0,fin u 0 (by omega) (by omega) (by omega),by simp;omega,by simp[aw,hC]⟩
  ·have hi:o.length=p.length:=by omega
   have e1:p.drop o.length=[]:=amt (by omega);have e2:q.drop o.length=[]:=amt (by omega);have h6:=kE o h3;rw[e1,e2]at h4;have h7:val 10000 o=T:=by
    rcases Nat.le_one_iff_eq_zero_or_eq_one.1 h2 with rfl | rfl
    ·simpa[val]using h4
    ·simp[val]at h4;omega
   simp(disch:=omega)[az,aN,hC];refine ba (og o (by omega)) (by simp[amv]) ?_;have e:cj o=bC 10000 T:=by rw[←fp (by omega) o h3,h7]
   simp[e]
def eo(x:Int):Prop:=wid 10000 x.natAbs≤1000000000000
theorem lW{x:Int}:eo (-x)↔eo x:=by simp[eo]
theorem tY(x y:Int)(hm:eo x)(hn:eo y):aF Tryz.prog 89 [dY x,dY y] (dY (x+y)):=by
 refine aj Tryz.func89 rfl (by simp) (fun C hC=>?_);have B2:2≤10000:=by omega
 have vx:=cr B2 x.natAbs;have vy:=cr B2 y.natAbs;have lx:=cS B2 x.natAbs;have ly:=cS B2 y.natAbs;have hm':=hm;have hn':=hn;simp only[eo,wid]at hm' hn';by_cases hs:(x<0↔y<0)
 ·simp[dY,hs];refine sS (FV _ _ lx ly (by omega) (by omega)) (by simp) ?_;rintro _ ⟨l,rfl,h1,h2,h3⟩;simp;have e:(if decide (y<0)=true then -(val 10000 l:Int) else(val 10000 l:Int))=x+y:=by
   rw[h2,vx,vy];split<;>simp_all<;>omega
  have hmd:=nX (decide (y<0)) l (by omega) h1;rw[e]at hmd;refine ba hmd (by simp) ?_;simp[dY]
 ·have hc:=wG _ _ (show wid 10000 x.natAbs≤4398046511104 by simp only[wid];omega) (show wid 10000 y.natAbs≤4398046511104 by simp only[wid];omega);have fin:∀(σ:Bool) (k:Nat),wid 10000 k≤4398046511104→(if σ=true then -(k:Int) else(k:Int))=x+y→aF Tryz.prog 90 [.val (.bool σ),.ro ((bC 10000 k).map i64)] (dY (x+y)):=fun σ k hk e=>by
   have:=nX σ (bC 10000 k) hk (cS B2 k)
   rwa [cr B2,e]at this
  rcases Nat.lt_or_ge x.natAbs y.natAbs with h | h
  ·have e0:dV x.natAbs y.natAbs = -1:=by simp[dV,h]
   rw[e0]at hc;have hl:=uH y.natAbs x.natAbs (by omega) (by simp only[wid];omega);simp[dY,hs];refine ba hc (by simp) ?_;simp;refine ba hl (by simp) ?_;simp;refine ba (fin (decide (y<0)) (y.natAbs - x.natAbs) (alJ (ch B2 (anw _ _)) (by simp only[wid];omega)) (by split<;>simp_all<;>omega)) (by simp) ?_;simp[dY]
  ·have e0:dV x.natAbs y.natAbs=if y.natAbs<x.natAbs then 1 else 0:=by simp[dV];omega
   rw[e0]at hc;have hl:=uH x.natAbs y.natAbs (by omega) (by simp only[wid];omega);simp[dY,hs];refine ba hc (by simp) ?_;have e1:(0:Int)≤(if y.natAbs<x.natAbs then(1:Int) else 0):=by split<;>omega
   simp[e1];refine ba hl (by simp) ?_;simp;refine ba (fin (decide (x<0)) (x.natAbs - y.natAbs) (alJ (ch B2 (anw _ _)) (by simp only[wid];omega)) (by split<;>simp_all<;>omega)) (by simp) ?_;simp[dY]
theorem KR(x y:Int)(hm:eo x)(hn:eo y):aF Tryz.prog 163 [dY x,dY y] (dY (x - y)):=by
 refine aj Tryz.func163 rfl (by simp) (fun C hC=>?_);simp;refine ba (qG y) (by simp) ?_;simp;refine ba (tY x (-y) hm (lW.2 hn)) (by simp) ?_;simp[Int.sub_eq_add_neg]
end Go.Proofs
namespace Go.Proofs
open Go.Sv Go Go.Pl
theorem Jx{B:Nat}{l:List Nat}{j:Nat}(u:Nat)(h:j<l.length):val B (l.set j u)+B^j*dg l j=val B l+B^j*u:=by
 induction l generalizing j with
 | nil=>simp at h
 | cons a l ih =>
  cases j with
  | zero=>simp[val,dg];omega
  | succ j =>
   have:=ih (j:=j) (by simpa using h);simp only[List.set_cons_succ,val];have e:dg (a::l) (j+1)=dg l j:=by simp[dg]
   rw[e,amb];grind
theorem Ud{l l':List Nat}{n k:Nat}(h:l.drop n=l'.drop n)(hk:n≤k):dg l k=dg l' k:=by
 have e:=congrArg (fun x=>x[k - n]?) h;simp only[List.getElem?_drop,show n+(k - n)=k by omega]at e;unfold dg;rw[ant,ant,e]
theorem il(x y:Int)(hm:eo x)(hn:eo y) :
  aF Tryz.prog 54 [dY x,dY y] (dY (x*y)):=by
 refine aj Tryz.func54 rfl (by simp) (fun C hC=>?_);have B2:2≤10000:=by omega
 have vx:=cr B2 x.natAbs;have vy:=cr B2 y.natAbs;have lx:=cS B2 x.natAbs;have ly:=cS B2 y.natAbs;have hxm:(if(decide (x<0) != decide (y<0))=true then -((x.natAbs*y.natAbs:Nat):Int) else((x.natAbs*y.natAbs:Nat):Int))=x*y:=DB x y;simp only[eo,wid]at hm hn;simp[dY];generalize bC 10000 x.natAbs=a at *;generalize bC 10000 y.natAbs=b at *;simp(disch:=omega)[aN];refine⟨by omega,?_⟩;refine aa.loop (ι:=List Nat × Nat)
  (fun⟨o,i⟩=>⟨79,[(2,.ptr 0 0 0),(3,.ptr 1 0 0),(4,.ptr 2 0 0),(5,.view 3 0 (a.length+b.length+1)),(6,.val (.int .i64 i))],
   [some ⟨2,[.agg [.val (.bool (decide (x<0))),.ro (a.map i64)]],false⟩,some ⟨2,[.agg [.val (.bool (decide (y<0))),.ro (b.map i64)]],false⟩,some ⟨2,[.agg [.val (.bool false),.val (.slice none 0 0)]],false⟩,some ⟨1,o.map i64,false⟩]⟩)
  (fun⟨o,i⟩=>o.length=a.length+b.length+1∧i≤a.length∧(∀d∈o,d<10000)∧(∀j,i+b.length≤j→dg o j=0)∧val 10000 o=val 10000 (a.take i)*val 10000 b)
  (fun⟨o,i⟩=>a.length - i) (akQ (a.length+b.length+1) 0,0) ?_ ?_ ?_
 ·refine⟨by simp,by omega,by simp,?_,?_⟩
  ·intro j _;unfold dg;rw[ant,List.getElem?_replicate];split<;>rfl
  ·simp[x6];simp[val]
 ·simp[aw,hC];omega
 ·rintro⟨o,i⟩ ⟨h1,h2,h3,hz,h4⟩;by_cases az:i<a.length
  ·simp(disch:=omega)[az,aN,hC];have bx:=dO lx (by omega) i;refine aa.loop (ι:=List Nat × Nat × Nat)
    (fun⟨o',j,c⟩=>⟨79,[(2,.ptr 0 0 0),(3,.ptr 1 0 0),(4,.ptr 2 0 0),(5,.view 3 0 (a.length+b.length+1)),(6,.val (.int .i64 i)),(7,.val (.int .i64 c)),(8,.val (.int .i64 j))],
     [some ⟨2,[.agg [.val (.bool (decide (x<0))),.ro (a.map i64)]],false⟩,some ⟨2,[.agg [.val (.bool (decide (y<0))),.ro (b.map i64)]],false⟩,some ⟨2,[.agg [.val (.bool false),.val (.slice none 0 0)]],false⟩,some ⟨1,o'.map i64,false⟩]⟩)
    (fun⟨o',j,c⟩=>o'.length=a.length+b.length+1∧(j≤b.length∨j=b.length+1∧c=0)∧c<10000∧(∀d∈o',d<10000)∧o'.drop (i+j)=o.drop (i+j) ∧
     val 10000 o'+10000^(i+j)*c=val 10000 o+10000^i*(dg a i*val 10000 (b.take j)))
    (fun⟨o',j,c⟩=>b.length+1 - j) (o,0,0) ?_ ?_ ?_
   ·exact⟨h1,by omega,by omega,h3,rfl,by simp[val]⟩
   ·simp[aw,hC]
   ·rintro⟨o',j,c⟩ ⟨g1,g2,g3,g4,g5,g6⟩;have hd:dg o' (i+j)=dg o (i+j):=rv g5;have bo:=dO g4 (by omega) (i+j);have by_:=dO ly (by omega) j;obtain⟨p,hp⟩:∃p,p=dg a i*dg b j:=⟨_,rfl⟩;have hp':p≤9999*9999:=by rw[hp];exact amK (by omega) (by omega)
    have hpz:(dg a i:Int)*dg b j=p:=by rw[hp,amN]
    obtain⟨t,ht⟩:∃t,t=dg o' (i+j)+c+p:=⟨_,rfl⟩;have F:=j0 (i+j) g4 (alk t (show 0<10000 by omega));have E:=Nat.mod_add_div t 10000;have K:val 10000 (o'.set (i+j) (t % 10000))+10000^(i+(j+1))*(t / 10000)=val 10000 o+10000^i*(dg a i*val 10000 (b.take (j+1))):=by
     have:=Jx (B:=10000) (t % 10000) (show i+j<o'.length by omega);rw[dm];rw[←ala,amb];have e:(10000:Nat)^(i+j)=10000^i*10000^j:=Nat.pow_add ..;rw[e]at this g6 ⊢;grind
    have D:(o'.set (i+j) (t % 10000)).drop (i+(j+1))=o.drop (i+(j+1)):=by
     rw[←ala,eJ];exact iN g5
    by_cases hlj:j<b.length
    ·simp(disch:=omega)[hlj,aN,hC,dE];refine⟨by omega,by omega,?_⟩;refine aa.akJ (.qs [0,1,2,3,4,5,6,7,8,9,10,11,12,13]<|.nil) ?_;simp(disch:=omega)[hlj,aN,hC,dE,hpz,sJ,tt, -amw];repeat refine And.intro (by omega) ?_
     refine⟨o'.set (i+j) (t % 10000),j+1,t / 10000,⟨by simpa using g1,by omega,by omega,F,D,K⟩,by omega,?_⟩;subst ht;simp[aw,hC,ct]
    ·have gb:=jn (l:=b) (i:=j) (by omega);have hp0:p=0:=by rw[hp,gb];simp
     rw[hp0]at ht;by_cases hc:0<c
     ·have hjb:j=b.length:=by omega
      have hz':dg o' (i+j)=0:=by rw[hd];exact hz _ (by omega)
      rw[hz']at ht;have ht':t % 10000=c:=by omega
      have ht'':t / 10000=0:=by omega
      simp(disch:=omega)[hlj,hc,aN,hC,dE,hz',sJ,tt, -amw];repeat refine And.intro (by omega) ?_
      refine⟨o'.set (i+j) (t % 10000),j+1,t / 10000,⟨by simpa using g1,by omega,by omega,F,D,K⟩,by omega,?_⟩;subst ht;simp[aw,hC,ct]
     ·have hc':c=0:=by omega
      subst hc';simp(disch:=omega)[hlj,aN,hC];refine⟨o',i+1,⟨g1,by omega,g4,fun k hk=>?_,?_⟩,by omega,by simp[aw,hC]⟩
      ·rw[Ud g5 (by omega)];exact hz _ (by omega)
      ·have tb:b.take j=b:=amv (by omega);rw[tb,h4]at g6;rw[dm];grind
  ·obtain rfl:i=a.length:=by omega
   simp(disch:=omega)[aN,hC];have e1:a.take a.length=a:=List.take_length;rw[e1,vx,vy]at h4;have hmd:=nX (decide (x<0) != decide (y<0)) o (by omega) h3;rw[h4,hxm]at hmd;refine ba hmd (by simp[amv,h1,bne]) ?_;simp[dY]
end Go.Proofs
namespace Go.Proofs
open Go.Sv Go Go.Pl
theorem VZ{P:Program}{C:Ctx}{c:Code}{st:St}{Q:aX}(t:Nat)(h:Sv.get st.fr t=some (.val (.slice none 0 0)))(h':aa P C c ⟨st.n,(t,.ro [])::st.fr,st.M⟩ Q):aa P C c st Q:=by
 rintro a w ⟨β,H,hF,hW⟩;refine h' a w ⟨β,H,⟨hF.1,hF.2.1,fun t' x hg=>?_⟩,hW⟩;simp only[Sv.get]at hg;split at hg
 ·rename_i e;subst e;simp only[Option.some.injEq]at hg;subst hg;obtain⟨v,h1,h2⟩:=hF.2.2 t _ h;simp only[Den]at h2;exact⟨v,h1,by simp only[Den];exact .inl ⟨trivial,_,_,h2.1⟩⟩
 ·exact hF.2.2 t' x hg
theorem Lb{x y:Int}(h:0≤x):x.tdiv y=x / y:=ane h
theorem Em{n x V:Nat}(hn:n≠0):(x+10000*V) / n=(x+10000*(V % n)) / n+10000*(V / n)∧(x+10000*V) % n=(x+10000*(V % n)) % n:=by
 have h:=am2 V n;have e:x+10000*V=x+10000*(V % n)+n*(10000*(V / n)):=by
  conv=>lhs;rw[←h]
  grind
 rw[e,Nat.add_mul_div_left _ _ (by omega),Nat.add_mul_mod_self_left];exact⟨rfl,rfl⟩
theorem xB(m n:Nat)(hn:n≠0)(hm:wid 10000 m≤1000000000000)(hn':wid 10000 n≤1000000000000) :
  aF Tryz.prog 162 [.ro ((bC 10000 m).map i64),.ro ((bC 10000 n).map i64)] (.bO [.ro ((bC 10000 (m / n)).map i64),.ro ((bC 10000 (m % n)).map i64)]):=by
 refine aj Tryz.func162 rfl (by simp) (fun C hC=>?_);have B2:2≤10000:=by omega
 have vm:=cr B2 m;have lm:=cS B2 m;have vn:=cr B2 n;have ln:=cS B2 n;simp only[wid]at hm;generalize bC 10000 m=a at *;subst vm;simp(disch:=omega)[aN];refine⟨by omega,?_⟩;refine VZ 7 rfl ?_;refine aa.loop (ι:=Nat × List Nat)
  (fun⟨i,o⟩=>⟨66,[(0,.ro (a.map i64)),(1,.ro ((bC 10000 n).map i64)),(6,.view 0 0 a.length),(7,.ro ((bC 10000 (val 10000 (a.drop i) % n)).map i64)),(8,.val (.int .i64 ((i:Int) - 1)))],[some ⟨1,o.map i64,false⟩]⟩)
  (fun⟨i,o⟩=>i≤a.length∧o.length=a.length∧(∀d∈o,d<10000)∧val 10000 (o.drop i)=val 10000 (a.drop i) / n)
  (fun⟨i,o⟩=>i) (a.length,akQ a.length 0) ?_ ?_ ?_
 ·refine⟨by omega,by simp,by simp,?_⟩;simp[val]
 ·simp[aw,hC,val,aZ]
 ·rintro⟨i,o⟩ ⟨h1,h2,h3,h4⟩;cases i with
  | zero =>
   simp(disch:=omega)[aN,hC];refine ba (og o (by omega)) (by simp[amv,h2]) ?_;have e:cj o=bC 10000 (val 10000 a / n):=by rw[←fp (by omega) o h3];simp at h4;rw[h4]
   simp[e]
  | succ i =>
   obtain⟨V,hV⟩:∃V,V=val 10000 (a.drop (i+1)):=⟨_,rfl⟩;have bx:=dO lm (by omega) i;have hVi:val 10000 (a.drop i)=dg a i+10000*V:=by rw[df,hV]
   obtain⟨r,hr⟩:∃r,r=dg a i+10000*(V % n):=⟨_,rfl⟩;obtain⟨s1,s2⟩:=Em (x:=dg a i) (V:=V) hn;rw[←hr,←hVi]at s1 s2;simp only[←hV]at h4 ⊢;have hvn:V % n<n:=alk _ (by omega);have hrn:r<10000*n:=by omega
   have wr:wid 10000 r≤1000000000002:=by
    have:=yB (B:=10000) (by omega) 10000 n;have e2:wid 10000 10000≤2:=ir (by omega) (by omega);have:=ch (B:=10000) (by omega) (show r≤10000*n by omega);omega
   have lr:(bC 10000 (V % n)).length≤1000000000000:=alJ (ch (B:=10000) (by omega) (show V % n≤n by omega)) hn';have er:cj (dg a i::bC 10000 (V % n))=bC 10000 r:=by
    rw[←fp (by omega) _ (by
     intro d hd;rcases alF.1 hd with rfl | hd
     ·exact bx
     ·exact cS B2 _ d hd)]
    rw[val,cr B2,hr]
   have ht:=og (dg a i::bC 10000 (V % n)) (by simp;omega);rw[er]at ht;simp(disch:=omega)[aN,hC,dE];refine⟨by omega,by omega,?_⟩;refine ba ht (by simp[amv,Nat.add_comm]) ?_;simp;refine aa.loop (ι:=Nat × Nat)
    (fun⟨l,h⟩=>⟨66,[(0,.ro (a.map i64)),(1,.ro ((bC 10000 n).map i64)),(6,.view 0 0 a.length),(7,.ro ((bC 10000 r).map i64)),(8,.val (.int .i64 i)),(9,.val (.int .i64 l)),(10,.val (.int .i64 h))],[some ⟨1,o.map i64,false⟩]⟩)
    (fun⟨l,h⟩=>l≤r / n∧r / n≤h∧h≤9999) (fun⟨l,h⟩=>h - l) (0,9999) ?_ ?_ ?_
   ·refine⟨Nat.zero_le _,?_,by omega⟩;have:=(Nat.div_lt_iff_lt_mul (al8 hn)).2 hrn;omega
   ·simp[aw,hC]
   ·rintro⟨l,h⟩ ⟨g1,g2,g3⟩;have tim:∀k:Nat,k<10000→aF Tryz.prog 166 [.ro ((bC 10000 n).map i64),.val (.int .i64 k)] (.ro ((bC 10000 (n*k)).map i64)):=fun k hk=>by
     have:=Eo (bC 10000 n) k ln hk (alJ hn' (by omega))
     rwa [vn]at this
    have wk:∀k:Nat,k<10000→wid 10000 (n*k)≤1000000000001:=fun k hk=>by
     have:=yB (B:=10000) (by omega) n k;have e2:wid 10000 k≤1:=ir (by omega) (by omega);omega
    by_cases hlh:l<h
    ·obtain⟨k,hk⟩:∃k,k=(l+h+1) / 2:=⟨_,rfl⟩;have hk':((l:Int)+h+1).tdiv 2=k:=by rw[Lb (by omega)];omega
     simp(disch:=omega)[aN,hC,hlh,hk'];refine ba (tim k (by omega)) (by simp) ?_;simp;refine ba (wG (n*k) r (alJ (wk k (by omega)) (by omega)) (alJ wr (by omega))) (by simp) ?_;have kk:n*k≤r↔k≤r / n:=by rw[Nat.le_div_iff_mul_le (al8 hn),amd]
     by_cases hc:n*k≤r
     ·have e0:dV (n*k) r≤0:=by unfold dV;split<;>(try split)<;>omega
      simp[e0];exact⟨k,h,⟨kk.1 hc,g2,g3⟩,by omega,by simp[aw,hC]⟩
     ·have e0:¬dV (n*k) r≤0:=by unfold dV;rw[if_neg (by omega),if_pos (by omega)];omega
      have e1:((k:Int) - 1)=((k - 1:Nat):Int):=by omega
      have nk:¬k≤r / n:=fun h=>hc (kk.2 h);simp(disch:=omega)[e0,aN];exact⟨l,k - 1,⟨g1,by omega,by omega⟩,by omega,by simp[aw,hC,e1]⟩
    ·have hl:l=r / n:=by omega
     simp(disch:=omega)[aN,hC,hlh,dE,FK, -amw];refine⟨by omega,by omega,?_⟩;have l9:l<10000:=by omega
     refine ba (tim l l9) (by simp) ?_;simp;have hll:n*l≤r:=by rw[hl];exact Nat.mul_div_le r n
     refine ba (uH r (n*l) hll (alJ wr (by omega))) (by simp) ?_;have e5:r - n*l=r % n:=by have:=am2 r n;rw[hl];omega
     simp only[e5];simp(disch:=omega)[aN,hC];refine⟨i,o.set i l,⟨by omega,by simpa using h2,j0 i h3 l9,?_⟩,by omega,?_⟩
     ·rw[df,eJ,h4,s1];have:dg (o.set i l) i=l:=by simp[dg,ant,List.getElem?_set_self (show i<o.length by omega)]
      rw[this,hl]
     ·simp[aw,hC,s2]
end Go.Proofs
namespace Go.Proofs
open Go.Sv Go Go.Pl
theorem x9{x y:Int}(h:y.natAbs≤x.natAbs)(hx:eo x):eo y:=alJ (ch (by omega) h) hx
theorem vH{x:Int}(h:x.natAbs<10000^7):eo x:=alJ (ir (by omega) h) (by omega)
theorem lN(b:Bool)(n:Nat)(h:wid 10000 n≤1000000000000):aF Tryz.prog 90 [.val (.bool b),.ro ((bC 10000 n).map i64)] (dY (if b=true then -(n:Int) else(n:Int))):=by
 have:=nX b (bC 10000 n) (by simp only[wid]at h;omega) (cS (by omega) n)
 rwa [cr (by omega)]at this
theorem pK(x y:Int)(hx:eo x)(hy:eo y) :
  aF Tryz.prog 141 [dY x,dY y] (.bO [dY (x / y),dY (if y=0 then 0 else x % y),.val (.bool (decide (y≠0)))]):=by
 refine aj Tryz.func141 rfl (by simp) (fun C hC=>?_);by_cases h0:y=0
 ·subst h0;simp[dY,aZ]
 ·have hy0:y.natAbs≠0:=by omega
  have hne:¬(bC 10000 y.natAbs)=[]:=fun h=>hy0 ((bR (by omega)).1 h);have hq1:x.natAbs / y.natAbs≤x.natAbs:=Nat.div_le_self _ _;have hr1:x.natAbs % y.natAbs≤x.natAbs:=Nat.mod_le _ _;have hr2:=alk x.natAbs (show 0<y.natAbs by omega);have hdm:=am2 x.natAbs y.natAbs;have hl:=xB x.natAbs y.natAbs hy0 hx hy;generalize x.natAbs / y.natAbs=Q at *;generalize x.natAbs % y.natAbs=R at *;have hm1:=lN (decide (x<0) != decide (y<0)) Q (alJ (ch (by omega) hq1) hx);have hm2:=lN (decide (x<0)) R (alJ (ch (by omega) hr1) hx);obtain⟨q,hq⟩:∃q,q=(if(decide (x<0) != decide (y<0))=true then -(Q:Int) else(Q:Int)):=⟨_,rfl⟩;obtain⟨r,hr⟩:∃r,r=(if decide (x<0)=true then -(R:Int) else(R:Int)):=⟨_,rfl⟩;rw[←hq]at hm1;rw[←hr]at hm2;have hxq:x=r+y*q:=by
   have hdm':(y.natAbs:Int)*Q+R=x.natAbs:=by rw[←amN,←Int.natCast_add,hdm]
   by_cases h1:x<0<;>by_cases h2:y<0
   ·have e1:(x.natAbs:Int) = -x:=by omega
    have e2:(y.natAbs:Int) = -y:=by omega
    rw[e1,e2]at hdm';simp[h1,h2]at hq hr;subst hq hr;grind
   ·have e1:(x.natAbs:Int) = -x:=by omega
    have e2:(y.natAbs:Int)=y:=by omega
    rw[e1,e2]at hdm';simp[h1,h2]at hq hr;subst hq hr;grind
   ·have e1:(x.natAbs:Int)=x:=by omega
    have e2:(y.natAbs:Int) = -y:=by omega
    rw[e1,e2]at hdm';simp[h1,h2]at hq hr;subst hq hr;grind
   ·have e1:(x.natAbs:Int)=x:=by omega
    have e2:(y.natAbs:Int)=y:=by omega
    rw[e1,e2]at hdm';simp[h1,h2]at hq hr;subst hq hr;grind
  have hra:r.natAbs=R:=by rw[hr];split<;>omega
  have hqa:q.natAbs=Q:=by rw[hq];split<;>omega
  have fq:eo q:=x9 (x:=x) (by omega) hx;have fr:eo r:=x9 (x:=x) (by omega) hx;simp[dY,hne,h0];refine ba hl (by simp) ?_;simp;refine ba hm1 (by simp[bne]) ?_;simp;refine ba hm2 (by simp) ?_;by_cases hr0:r<0
  ·have ha:=tY r (y.natAbs:Int) fr (by simpa[eo]using hy);have hyn:¬(y.natAbs:Int)<0:=by omega
   simp[dY,hr0,bne];refine ba ha (by simp[dY,hr0]) ?_;simp[dY];by_cases hy1:y<0
   ·obtain⟨u1,u2⟩:=Er (x:=x) (y:=y) (q:=q+1) (r:=r+y.natAbs) h0 (by rw[hxq];grind) (by omega) (by omega);have hy2:¬(0:Int)≤y:=by omega
    simp[hy1,hy2];refine aa.akJ (.qs [0]<|.l 1 []<|.l 2 []<|.l 3 [4]<|.nil) ?_;simp;refine ba (gn 1 (by omega) (by omega)) (by simp) ?_;simp[dY];refine ba (tY q 1 fq (vH (by simp))) (by simp[dY]) ?_;simp[dY];refine aa.akJ (.qs [0]<|.q 1 [2]<|.l 2 [2]<|.l 3 [3]<|.qs [4]<|.nil) ?_;simp[dY,u1,u2,h0];try omega
   ·obtain⟨u1,u2⟩:=Er (x:=x) (y:=y) (q:=q - 1) (r:=r+y.natAbs) h0 (by rw[hxq];grind) (by omega) (by omega);have hy2:0≤y:=by omega
    simp[hy1,hy2];refine aa.akJ (.qs [0]<|.l 1 []<|.l 2 []<|.l 3 [4]<|.nil) ?_;simp;refine ba (gn 1 (by omega) (by omega)) (by simp) ?_;simp[dY];refine ba (KR q 1 fq (vH (by simp))) (by simp[dY]) ?_;simp[dY];refine aa.akJ (.qs [0]<|.q 1 [2]<|.l 2 [2]<|.l 3 [3]<|.qs [4]<|.nil) ?_;simp[dY,u1,u2,h0];try omega
  ·obtain⟨u1,u2⟩:=Er (x:=x) (y:=y) (q:=q) (r:=r) h0 hxq (by omega) (by omega);simp[dY,hr0,bne];refine aa.akJ (.qs [0]<|.q 1 [2]<|.l 2 [2]<|.l 3 [3]<|.qs [4]<|.nil) ?_;simp[dY,u1,u2,h0];try omega
theorem Kz(x y:Int)(hx:eo x)(hy:eo y):aF Tryz.prog 140 [dY x,dY y] (dY (ana x y:Nat)):=by
 refine aj Tryz.func140 rfl (by simp) (fun C hC=>?_);have e:ana x y=Nat.gcd x.natAbs y.natAbs:=rfl;have hnn:¬((ana x y:Nat):Int)<0:=by omega
 simp[dY];refine aa.loop (ι:=Nat × Nat) (fun⟨m,n⟩=>⟨26,[(4,.ptr 2 0 0),(5,.ro ((bC 10000 m).map i64)),(6,.ro ((bC 10000 n).map i64))],
   [none,none,some ⟨2,[.agg [.val (.bool false),.val (.slice none 0 0)]],false⟩]⟩)
  (fun⟨m,n⟩=>wid 10000 m≤1000000000000∧wid 10000 n≤1000000000000∧Nat.gcd m n=ana x y) (fun⟨m,n⟩=>n) (x.natAbs,y.natAbs) ?_ ?_ ?_
 ·exact⟨hx,hy,e.symm⟩
 ·simp[aw,hC]
 ·rintro⟨m,n⟩ ⟨h1,h2,h3⟩;by_cases hn:n=0
  ·subst hn;simp at h3;simp[aZ,h3]
  ·have hpos:0<(bC 10000 n).length:=ams.2 fun h=>hn ((bR (by omega)).1 h);simp[hpos];refine ba (xB m n hn h1 h2) (by simp) ?_;simp;have az:=alk m (show 0<n by omega);refine⟨n,m % n,⟨h2,alJ (ch (by omega) (by omega)) h2,by rw[am5 n,←Nat.gcd_rec,am5,h3]⟩,az,by simp[aw,hC]⟩
end Go.Proofs
namespace Go.Proofs
open Go.Sv Go Go.Pl
def sb(L:List Nat):ByteArray:=strOf (L.map u8)
theorem tV(L:List Nat):(sb L).data.toList=L.map UInt8.ofNat:=by
 unfold sb strOf;rw[strOfNums_data];simp[vv]
theorem Gf(L R:List Nat):sb L++sb R=sb (L++R):=by
 apply ByteArray.ext;apply Array.toList_inj.1;simp[tV]
@[simp] theorem Xq(L:List Nat):(sb L).size=L.length:=by
 have:=congrArg List.length (tV L);simpa using this
theorem Nt{L:List Nat}{i:Nat}(h:i<L.length)(hL:∀d∈L,d<256):(ek (sb L) i).toNat=dg L i:=by
 unfold ek;rw[Array.getD_eq_getD_getElem?,←Array.getElem?_toList,tV];simp[h,dg,ant];exact hL _ (List.getElem_mem h)
theorem KN(x:Nat)(L:List Nat):(sb (x::L)).extract 1 (L.length+1)=sb L:=by
 apply ByteArray.ext;apply Array.toList_inj.1;simp[tV,ByteArray.data_extract];exact amv (by simp)
def f4(x:Nat):List Nat:=[x % 10,x / 10 % 10,x / 100 % 10,x / 1000]
def L4(l:List Nat):List Nat:=l.flatMap f4
theorem N4(l:List Nat):val 10 (L4 l)=val 10000 l:=by
 induction l with
 | nil=>rfl
 | cons x l ih =>
  have e:L4 (x::l)=f4 x++L4 l:=rfl;rw[e];simp only[f4,List.cons_append,anu,val,ih];omega
theorem Lc{l:List Nat}(h:∀d∈l,d<10000):∀d∈L4 l,d<10:=by
 intro d hd;obtain⟨x,hx,hd⟩:=List.mem_flatMap.1 hd;have:=h x hx;simp[f4]at hd;omega
theorem HQ(l:List Nat):(L4 l).length=4*l.length:=by
 induction l with
 | nil=>rfl
 | cons x l ih =>
  have e:L4 (x::l)=f4 x++L4 l:=rfl;rw[e];simp[ih,f4];omega
theorem TC{x y:Int}(h:0≤x):x.tmod y=x % y:=am7 h
theorem HF(x:Nat)(hx:x<10000):aF Tryz.prog 112 [.val (.int .i64 x)] (.val (.string (sb ((f4 x).reverse.map (48+·))))):=by
 refine aj Tryz.func112 rfl (by simp) (fun C hC=>?_);obtain⟨a,ha⟩:∃a,a=48+x / 1000:=⟨_,rfl⟩;obtain⟨b,hb⟩:∃b,b=48+x / 100 % 10:=⟨_,rfl⟩;obtain⟨c,hc⟩:∃c,c=48+x / 10 % 10:=⟨_,rfl⟩;obtain⟨d,hd⟩:∃d,d=48+x % 10:=⟨_,rfl⟩;have e1:(48+(x:Int) / 1000) % 256=a:=by omega
 have e2:(48+(x:Int) / 100 % 10) % 256=b:=by omega
 have e3:(48+(x:Int) / 10 % 10) % 256=c:=by omega
 have e4:(48+(x:Int) % 10) % 256=d:=by omega
 have e5:(f4 x).reverse.map (48+·)=[a,b,c,d]:=by simp[f4,ha,hb,hc,hd]
 have e6:sb [a,b,c,d]=strOf [.val (.int .u8 a),.val (.int .u8 b),.val (.int .u8 c),.val (.int .u8 d)]:=rfl;rw[e5,e6];simp(disch:=omega)[aN,Lb,TC,Kk,e1,e2,e3,e4];simp[mq]
theorem MG{l:List Nat}{i:Nat}(h:i<l.length):L4 (l.drop i)=f4 (dg l i)++L4 (l.drop (i+1)):=by
 rw[List.drop_eq_getElem_cons h];have:dg l i=l[i]:=by simp[dg,ant,h]
 rw[this];rfl
theorem Fs{l:List Nat}{n:Nat}(h:cj l=bC 10 n)(hn:n≠0):l≠[]:=by
 rintro rfl;have:=(bR (by omega)).1 h.symm;omega
theorem Av(x:Int)(hx:eo x):aF Tryz.prog 75 [dY x] (.val (.string (Hu x))):=by
 refine aj Tryz.func75 rfl (by simp) (fun C hC=>?_);by_cases h0:x=0
 ·subst h0;simp[dY,aZ];rfl
 ·have hn:x.natAbs≠0:=by omega
  have hne:¬(bC 10000 x.natAbs)=[]:=fun h=>hn ((bR (by omega)).1 h);have ha:=cS (B:=10000) (by omega) x.natAbs;have hv:=cr (B:=10000) (by omega) x.natAbs;have hl:(bC 10000 x.natAbs).length≤1000000000000:=hx;simp[dY];generalize bC 10000 x.natAbs=a at *;have hal:¬a.length=0:=fun h=>hne (List.length_eq_zero_iff.1 h);simp(disch:=omega)[hne,hal,aN];refine aa.loop (ι:=Nat) (fun i=>⟨35,[(1,.ptr 0 0 0),(3,.val (.string (sb ((L4 (a.drop i)).reverse.map (48+·))))),(4,.val (.int .i64 ((i:Int) - 1)))],
    [some ⟨2,[.agg [.val (.bool (decide (x<0))),.ro (a.map i64)]],false⟩]⟩)
   (fun i=>i≤a.length) (fun i=>i) a.length ?_ ?_ ?_
  ·exact Nat.le_refl _
  ·simp[aw,hC];rfl
  ·intro i hi;cases i with
   | zero =>
    have fin:Hu x=sb ((if x<0 then[45] else[])++(bC 10 x.natAbs).reverse.map (48+·)):=by unfold Hu Ki;rw[if_neg h0];rfl
    have tr:cj (L4 a)=bC 10 x.natAbs:=by rw[←fp (by omega) _ (Lc ha),N4,hv]
    simp;refine aa.loop (ι:=List Nat) (fun l=>⟨35,[(1,.ptr 0 0 0),(3,.val (.string (sb (l.map (48+·)).reverse)))],
      [some ⟨2,[.agg [.val (.bool (decide (x<0))),.ro (a.map i64)]],false⟩]⟩)
     (fun l=>l.length≤4*a.length∧(∀d∈l,d<10)∧cj l=bC 10 x.natAbs) (fun l=>l.length) (L4 a) ?_ ?_ ?_
    ·exact⟨by rw[HQ];omega,Lc ha,tr⟩
    ·simp[aw,hC]
    ·rintro l ⟨g1,g2,g3⟩;rcases amq l with rfl | ⟨zs,z,rfl⟩
     ·exact absurd rfl (Fs g3 hn)
     ·rw[List.concat_eq_append]at g1 g2 g3 ⊢;have hz:z<10:=g2 z (by simp);have g5:∀d∈zs,d<10:=fun d hd=>g2 d (by simp[hd]);have hz2:∀d∈(48+z)::(zs.map (48+·)).reverse,d<256:=by
       intro d hd;rcases alF.1 hd with rfl | hd
       ·omega
       ·obtain⟨e,he,rfl⟩:=List.mem_map.1 (List.mem_reverse.1 hd);have:=g5 e he;omega
      have g6:(ek (sb ((48+z)::(zs.map (48+·)).reverse)) 0).toNat=48+z:=by rw[Nt (by simp) hz2];rfl
      simp at g1;by_cases z0:z=0
      ·subst z0;rw[ku]at g3;have g7:=KN 48 (zs.map (48+·)).reverse;simp at g6 g7;simp[g6,g7];exact⟨by omega,zs,⟨by omega,g5,g3⟩,by omega,by simp[aw,hC]⟩
      ·have g8:¬((48:Int)+z=48):=by omega
       rw[mX _ z0]at g3;rw[←g3]at fin;simp at fin;simp[g6,z0,g8];have g9:({ data:=#[45] }:ByteArray).size=1:=rfl;have g10:({ data:=#[45] }:ByteArray)=sb [45]:=rfl;refine⟨fun hneg=>⟨by omega,?_⟩,fun hpos=>?_⟩
       ·rw[fin,if_pos hneg,g10,Gf]
       ·rw[fin,if_neg (by omega),anu]
   | succ i =>
    have bx:=dO ha (by omega) i;simp(disch:=omega)[aN,dE];refine⟨by omega,?_⟩;refine ba (HF (dg a i) bx) (by simp) ?_;have e8:=MG (l:=a) (i:=i) (by omega);simp(disch:=omega)[aN,Gf,HQ];exact⟨by simp[f4];omega,i,by omega,by omega,by simp[aw,hC,e8]⟩
end Go.Proofs
namespace Go.Proofs
open Go.Sv Go Go.Pl
theorem Fi(c:Nat)(hc:c<256):aF Tryz.prog 161 [.val (.int .u8 c)] (.val (.bool (decide (qP c)))):=by
 refine aj Tryz.func161 rfl (by simp) (fun C hC=>?_);rw[show decide (qP c)=(decide ((48:Int)≤c)&&decide ((c:Int)≤57)) by rw[←Bool.decide_and];congr 1;simp[qP];omega];by_cases h1:(48:Int)≤c<;>by_cases h2:(c:Int)≤57<;>simp[h1,h2]
def fH(c:Nat)(a:Int):SV:=.agg [.val (.int .i64 c),.val (.int .i64 a)]
theorem uv(s:ByteArray)(a b:Nat):∀k,nv s a (b+k)=nv s a b*10^k+nv s (a+b) k
 | 0=>by simp[nv]
 | k+1=>by
  have ih:=uv s a b k;rw[←ala];simp only[nv,ih,amb,ala];grind
theorem pR(t:ByteArray)(ht:t.size≤900000000000)(hd:∀i,i<t.size→bV t i):aF Tryz.prog 135 [.val (.string t)] (dY (nv t 0 t.size:Nat)):=by
 refine aj Tryz.func135 rfl (by simp) (fun C hC=>?_);simp;refine aa.nil 3 1 rfl ?_;refine aa.loop (ι:=Int × List Nat) (fun⟨to,d⟩=>⟨36,[(0,.val (.string t)),(2,.ptr 0 0 0),(3,.view 1 0 d.length),(4,.val (.int .i64 to))],
   [some ⟨2,[.agg [.val (.bool false),.val (.slice none 0 0)]],false⟩,some ⟨1,d.map i64,false⟩]⟩)
  (fun⟨to,d⟩ => -4<to∧to+4*d.length=t.size∧(∀x∈d,x<10000)∧val 10000 d+10000^d.length*nv t 0 to.toNat=nv t 0 t.size)
  (fun⟨to,d⟩=>(to+4).toNat) ((t.size:Int),[]) ?_ ?_ ?_
 ·exact⟨by omega,by simp,by simp,by simp[val]⟩
 ·simp[aw,hC]
 ·rintro⟨to,d⟩ ⟨h1,h2,h3,h4⟩;by_cases h0:0<to
  ·have tn:(to.toNat:Int)=to:=by omega
   obtain⟨a,hA⟩:∃a,a=(to - 4).toNat:=⟨_,rfl⟩;have hdl:d.length≤900000000000:=by omega
   simp(disch:=omega)[h0,aN];refine aa.loop (ι:=Int × Nat) (fun⟨i,x⟩=>⟨36,[(0,.val (.string t)),(2,.ptr 0 0 0),(3,.view 1 0 d.length),(4,.val (.int .i64 to)),(5,.val (.int .i64 x)),(6,.val (.int .i64 i))],
     [some ⟨2,[.agg [.val (.bool false),.val (.slice none 0 0)]],false⟩,some ⟨1,d.map i64,false⟩]⟩)
    (fun⟨i,x⟩=>to - 4≤i∧i≤to∧x=nv t a (i.toNat - a)) (fun⟨i,x⟩=>(to - i).toNat) (to - 4,0) ?_ ?_ ?_
   ·refine⟨by omega,by omega,?_⟩;rw[←hA,Nat.sub_self];rfl
   ·simp[aw,hC]
   ·rintro⟨i,x⟩ ⟨g1,g2,g3⟩;have xl:∀k,a+k≤t.size→nv t a k<10^k:=fun k hk=>th fun j j1 j2=>hd j (by omega);by_cases az:i<to
    ·by_cases hi0:0≤i
     ·obtain⟨k,rfl⟩:∃k:Nat,i=k:=⟨i.toNat,by omega⟩;have hk:k<t.size:=by omega
      have hdk:=(hd k hk).2;unfold qP kV at hdk;have hx:x<1000:=by
       have:=xl (k - a) (by omega);have:(10:Nat)^(k - a)≤10^3:=amg (by omega) (by omega);rw[g3];simp only[anv];omega
      obtain⟨c,hc⟩:∃c,c=(ek t k).toNat - 48:=⟨_,rfl⟩;have hc':IntKind.u8.wrap (((ek t k).toNat:Int) - 48)=c:=by rw[Kk];omega
      have st:10*x+c=nv t a (k+1 - a):=by
       have e:k+1 - a=(k - a)+1:=by omega
       have e2:a+(k - a)=k:=by omega
       rw[e];simp only[nv,e2];simp only[anv]at g3;unfold kV;rw[←g3,hc];omega
      simp(disch:=omega)[az,hi0,aN,hc',hk];exact⟨k+1,10*x+c,⟨by omega,by omega,by rw[st];congr 1⟩,by omega,by simp[aw,hC]⟩
     ·have hi1:¬(0:Int)≤i:=hi0;have a0:a=0:=by omega
      simp(disch:=omega)[az,hi0,aN];exact⟨i+1,x,⟨by omega,by omega,by rw[g3,a0];congr 1;omega⟩,by omega,by simp[aw,hC]⟩
    ·have hit:i=to:=by omega
     subst hit;have sp:=uv t 0 a (i.toNat - a);rw[show a+(i.toNat - a)=i.toNat by omega,Nat.zero_add,←g3]at sp;have hx:x<10000:=by
      have:=xl (i.toNat - a) (by omega);have:(10:Nat)^(i.toNat - a)≤10^4:=amg (by omega) (by omega);omega
     have sp2:nv t 0 i.toNat=x+10000*nv t 0 a:=by
      by_cases h44:4≤i
      ·rw[sp,show i.toNat - a=4 by omega];omega
      ·have a0:a=0:=by omega
       rw[sp,a0];simp[nv]
     simp(disch:=omega)[aN,hC];refine⟨by omega,i - 4,d++[x],⟨by omega,by simp;omega,mw h3 hx,?_⟩,by omega,by simp[aw,hC]⟩;rw[←hA,cO,List.length_append,List.length_singleton,amb,←h4,sp2];simp only[val];grind
  ·have e0:to.toNat=0:=by omega
   rw[e0]at h4;have h5:val 10000 d=nv t 0 t.size:=by simpa[nv]using h4
   have hm:=nX false d (by omega) h3;rw[h5]at hm;simp[h0];refine ba hm (by simp[amv]) ?_;simp
end Go.Proofs
namespace Go.Proofs
open Go.Sv Go Go.Pl
end Go.Proofs

