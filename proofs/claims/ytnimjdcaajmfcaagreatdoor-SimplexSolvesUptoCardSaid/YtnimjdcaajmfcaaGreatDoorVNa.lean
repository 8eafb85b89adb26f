/- A text of the prover's own. -/
import Derived.Test.YtnimjdcaajmfcaaGreatDoorVFs
open List renaming length_pos_iff->aAm,getElem?_eq_getElem->awZ,getD_eq_getElem?_getD->aBn,eq_nil_or_concat->aAk,take_of_length_le->aAp,drop_eq_nil_of_le->aAn,replicate->awQ,map_set->aAq
open Go.Proofs.Tryz renaming prog->ay9
open Int renaming lt_trichotomy->aAF,tmod_eq_emod_of_nonneg->aA2,tdiv_eq_ediv_of_nonneg->aA8,natCast_mul->aAG,gcd->aA5,toNat_natCast->aBo
open Nat renaming mul_comm->ayZ,mul_le_mul->aAD,pow_succ->ayX,le_trans->ayr,sub_le->aBp,mod_lt->axH,add_assoc->axp,div_add_mod->aAX,pos_of_ne_zero->ayU,gcd_comm->aA0,pow_le_pow_right->ay2
set_option maxRecDepth 20000
namespace Go.Proofs
open Go.Sv Go Go.Pl
def e9(x:Int):SV:=.agg [.val (.bool (decide (x<0))),.ro ((bO 10000 x.natAbs).map i64)]
@[simp] theorem ahI(x:Int):(e9 x).ir=2:=rfl
@[simp] theorem Zr(x:Int):(e9 x).aW=false:=rfl
@[simp] theorem XT(x:Int):(e9 x).isAgg=true:=rfl
@[simp] theorem aaT(x:Int):(e9 x).pure=true:=rfl
@[simp] theorem al7(n:Nat)(x:Int):(e9 x).lt n=true:=rfl
@[simp] theorem alA(x:Int):(e9 x).ks=[]:=rfl
@[simp] theorem aj8(M:aC)(x:Int)(y:SV):Sub M (e9 x) y=(y=e9 x):=by
 cases y with
 | agg l =>
  match l with
  | []=>simp[e9,cP]
  | [a]=>simp[e9,Sv.Sub,cP]
  | a::b::c::r=>simp[e9,Sv.Sub,cP]
  | [a,b]=>cases a<;>simp[e9,Sv.Sub,cP];intro _;exact eq_comm
 | _=>simp[e9,Sv.Sub]
theorem DY(x:Int):0<(bO 10000 x.natAbs).length↔x≠0:=by rw[aAm,ne_eq,bW (by omega)];omega
theorem LV{l:List Nat}{k:Nat}(h:k<l.length):l.take (k+1)=l.take k++[dg l k]:=by rw[List.take_add_one,awZ h];simp[dg,aBn,awZ h]
theorem rv(xs:List Nat)(h:xs.length<=4398046511104):aE ay9 180 [.ro (xs.map i64)] (.ro ((cG xs).map i64)):=by
 refine aj Tryz.func180 rfl (by simp) (λC hC=>?_);simp;refine aa.loop (ι:=Nat) (λn=>⟨21,[(0,.ro (xs.map i64)),(3,.val (.int .i64 n))],[]⟩) (λn=>n<=xs.length∧cG (xs.take n)=cG xs) (λn=>n) xs.length ?_ ?_ ?_
 ·simp
 ·simp[aP]
 ·rintro n ⟨hl,ht⟩;cases n with
  | zero =>
   simp[cG]at ht;simp[<-ht]
  | succ k =>
   have tk:=LV (l:=xs) (k:=k) (by omega);by_cases hz:dg xs k=0
   ·rw[tk,hz,lV]at ht;simp(disch:=omega)[aD,dU,hz];refine⟨by omega,k,⟨by omega,ht⟩,by omega,by simp[aP,hC]⟩
   ·have ai:¬(dg xs k:Int)=0:=by omega
    rw[tk,pT _ hz,<-tk]at ht;simp(disch:=omega)[aD,dU,hz];refine⟨by omega,by omega,?_⟩;rw[<-List.map_take,ht]
theorem rE(b:Bool)(xs:List Nat)(h:xs.length<=4398046511104)(hx:∀d∈xs,d<10000) :
  aE ay9 145 [.val (.bool b),.ro (xs.map i64)] (e9 (if b=true then -(val 10000 xs:Int) else(val 10000 xs:Int))):=by
 refine aj Tryz.func145 rfl (by simp) (λC hC=>?_);simp;refine bz (rv xs h) (by simp) ?_;rw[<-gz (by omega) xs hx];generalize val 10000 xs=n;cases b with
 | false=>
  simp[e9]
 | true =>
  simp[e9,aAm,bW];by_cases h:n=0<;>simp[h];omega
theorem Qu(x:Int):aE ay9 50 [e9 x] (.val (.int .i64 x.sign)):=by refine aj Tryz.func50 rfl (by simp) (λC hC=>?_);simp[e9,bW];refine⟨λh=>by simp[h],λ_=>⟨λh=>(Int.sign_eq_neg_one_of_neg h).symm,λh=>(Int.sign_eq_one_of_pos (by omega)).symm⟩⟩
theorem yQ(x:Int):aE ay9 100 [e9 x] (e9 (-x)):=by
 refine aj Tryz.func100 rfl (by simp) (λC hC=>?_);simp[e9,DY];refine⟨λh=>?_,λh=>by omega⟩;by_cases h0:x=0
 ·simp[h0]
 ·have:0<x:=by omega
  simp[h0,this]
theorem A4(m n:Nat)(hm:wid 10000 m<=4398046511104)(hn:wid 10000 n<=4398046511104) :
  aE ay9 160 [.ro ((bO 10000 m).map i64),.ro ((bO 10000 n).map i64)] (.val (.int .i64 (eE m n))):=by
 refine aj Tryz.func160 rfl (by simp) (λC hC=>?_);have vm:=cB (B:=10000) (by omega) m;have vn:=cB (B:=10000) (by omega) n;have lm:=cX (B:=10000) (by omega) m;have ln:=cX (B:=10000) (by omega) n;simp only[wid]at hm hn;simp;refine⟨λaw=>⟨λaR=>?_,λaG=>?_⟩,λhe=>?_⟩
 ·simp[eE,rS (by omega) aR]
 ·have:=rS (B:=10000) (m:=n) (n:=m) (by omega) (by omega);simp[eE,this];omega
 ·refine aa.loop (ι:=List Nat × List Nat × List Nat) (λ⟨la,lb,r⟩=>⟨41,[(0,.ro ((la++r).map i64)),(1,.ro ((lb++r).map i64)),(5,.val (.int .i64 ((la.length:Int) - 1)))],[]⟩)
   (λ⟨la,lb,r⟩=>bO 10000 m=la++r∧bO 10000 n=lb++r∧la.length=lb.length) (λ⟨la,lb,r⟩=>la.length) (bO 10000 m,bO 10000 n,[]) ?_ ?_ ?_
  ·simp;omega
  ·simp(disch:=omega)[aP,aD]
  ·rintro⟨la,lb,r⟩ ⟨h1,h2,h3⟩;rcases aAk la with rfl | ⟨la,x,rfl⟩
   ·have:lb=[]:=by cases lb<;>simp_all
    subst this;simp;have:m=n:=by rw[<-vm,<-vn,h1,h2]
    simp[eE,this]
   ·rcases aAk lb with rfl | ⟨lb,y,rfl⟩
    ·simp at h3
    simp at h1 h2 h3;simp[h3];have hl:lb.length<4398046511104:=by rw[h2]at hn;simp at hn;omega
    refine aa.awH (.qs [0,1,2,3,4,5,6,7,8] .nil) ?_;have c1:x<y->m<n:=λh=>by rw[<-vm,<-vn,h1,h2];exact yT (λd hd=>lm d (by rw[h1];simp[hd])) h3 h
    have c2:y<x->n<m:=λh=>by rw[<-vm,<-vn,h1,h2];exact yT (λd hd=>ln d (by rw[h2];simp[hd])) h3.symm h
    simp(disch:=omega)[zh];refine⟨by omega,by omega,λaR=>?_,λaG=>?_⟩
    ·simp[eE,c1 aR]
    ·refine aa.draw (.qs [0,1,2,3,4,5,6,7,8] .nil) (by kernel_rfl) (by kernel_rfl) (by simp) ?_;simp(disch:=omega)[zh,aD];refine⟨by omega,by omega,λaR=>?_,λaH=>?_⟩
     ·have:=c2 (by omega);simp[eE,this];omega
     ·refine⟨la,lb,y::r,?_⟩;have he:x=y:=by omega
      simp[h1,h2,h3,he,aP,hC]
theorem Rn(x y:Int)(hm:wid 10000 x.natAbs<=4398046511104)(hn:wid 10000 y.natAbs<=4398046511104) :
  aE ay9 127 [e9 x,e9 y] (.val (.int .i64 (if x<y then -1 else if y<x then 1 else 0))):=by
 refine aj Tryz.func127 rfl (by simp) (λC hC=>?_);have hc:=A4 _ _ hm hn;by_cases hx:x<0<;>by_cases hy:y<0<;>simp[e9,hx,hy]
 ·refine bz hc (by simp) ?_;rcases aAF x y with h | h | h
  ·have e:eE x.natAbs y.natAbs=1:=by rw[eE,if_neg (by omega),if_pos (by omega)]
   simp[e,h,aD]
  ·subst h;simp[eE,aD]
  ·have e:eE x.natAbs y.natAbs = -1:=by rw[eE,if_pos (by omega)]
   have:¬x<y:=by omega
   simp[e,h,this,aD]
 ·omega
 ·omega
 ·refine bz hc (by simp) ?_;rcases aAF x y with h | h | h
  ·have e:eE x.natAbs y.natAbs = -1:=by rw[eE,if_pos (by omega)]
   simp[e,h]
  ·subst h;simp[eE]
  ·have e:eE x.natAbs y.natAbs=1:=by rw[eE,if_neg (by omega),if_pos (by omega)]
   have:¬x<y:=by omega
   simp[e,h,this]
theorem ady{o r l:List Nat}(h:l=o++r):o.length<=l.length:=by rw[h];simp
theorem RX{m:Nat}(h:m<=9223372036854775808):(bO 10000 m).length<=5:=iC (by omega) (by omega)
theorem kd(n:Int)(h1 : -9223372036854775807<=n)(h2:n<=9223372036854775807):aE ay9 97 [.val (.int .i64 n)] (e9 n):=by
 refine aj Tryz.func97 rfl (by simp) (λC hC=>?_);have hl:=RX (m:=n.natAbs) (by omega);by_cases hn:n<0
 ·simp(disch:=omega)[hn,aD];refine aa.nil 4 1 rfl ?_;refine aa.loop (ι:=Nat × List Nat) (λ⟨m,o⟩=>⟨22,[(0,.val (.int .i64 m)),(2,.ptr 0 0 0),(3,.val (.bool true)),(4,.view 1 0 o.length)],
    [some ⟨2,[.agg [.val (.bool false),.val (.slice none 0 0)]],false⟩,some ⟨1,o.map i64,false⟩]⟩)
   (λ⟨m,o⟩=>m<=9223372036854775807∧bO 10000 n.natAbs=o++bO 10000 m) (λ⟨m,o⟩=>m) (n.natAbs,[]) ?_ ?_ ?_
  ·exact⟨by omega,by simp⟩
  ·simp[aP,hC];omega
  ·rintro⟨m,o⟩ ⟨g1,g2⟩;have ho:=ady g2;by_cases hm:m=0
   ·subst hm;simp[bu]at g2;simp[e9,hn,g2,aAp]
   ·obtain⟨d,hd⟩:∃d,d=m % 10000:=⟨_,rfl⟩;have e1:(m:Int).tmod 10000=d:=by rw[aA2 (by omega)];omega
    have e2:(m:Int).tdiv 10000=(m / 10000:Nat):=by rw[aA8 (by omega)];omega
    have g3:bO 10000 n.natAbs=(o++[d])++bO 10000 (m / 10000):=by rw[g2,nF (by omega) (by omega),hd];simp
    have ag:0<m:=by omega
    simp(disch:=omega)[ag,e1,e2,aD,hC];refine⟨by omega,m / 10000,o++[d],⟨by omega,g3⟩,by omega,by simp[aP,hC]⟩
 ·simp(disch:=omega)[hn];refine aa.nil 4 1 rfl ?_;refine aa.loop (ι:=Nat × List Nat) (λ⟨m,o⟩=>⟨22,[(0,.val (.int .i64 m)),(2,.ptr 0 0 0),(3,.val (.bool false)),(4,.view 1 0 o.length)],
    [some ⟨2,[.agg [.val (.bool false),.val (.slice none 0 0)]],false⟩,some ⟨1,o.map i64,false⟩]⟩)
   (λ⟨m,o⟩=>m<=9223372036854775807∧bO 10000 n.natAbs=o++bO 10000 m) (λ⟨m,o⟩=>m) (n.natAbs,[]) ?_ ?_ ?_
  ·exact⟨by omega,by simp⟩
  ·simp[aP,hC];omega
  ·rintro⟨m,o⟩ ⟨g1,g2⟩;have ho:=ady g2;by_cases hm:m=0
   ·subst hm;simp[bu]at g2;simp[e9,hn,g2,aAp]
   ·obtain⟨d,hd⟩:∃d,d=m % 10000:=⟨_,rfl⟩;have e1:(m:Int).tmod 10000=d:=by rw[aA2 (by omega)];omega
    have e2:(m:Int).tdiv 10000=(m / 10000:Nat):=by rw[aA8 (by omega)];omega
    have g3:bO 10000 n.natAbs=(o++[d])++bO 10000 (m / 10000):=by rw[g2,nF (by omega) (by omega),hd];simp
    have ag:0<m:=by omega
    simp(disch:=omega)[ag,e1,e2,aD,hC];refine⟨by omega,m / 10000,o++[d],⟨by omega,g3⟩,by omega,by simp[aP,hC]⟩
end Go.Proofs
namespace Go.Proofs
open Go.Sv Go Go.Pl
def Vp(B n k:Nat)(x:SV):Prop:=∃l:List Nat,x=.ro (l.map i64)∧(∀d∈l,d<B)∧val B l=n∧l.length<=k
theorem x5{x:Int}(h:0<=x):x.tmod 10000=x % 10000:=aA2 h
theorem yr{x:Int}(h:0<=x):x.tdiv 10000=x / 10000:=aA8 h
theorem PB(a b:List Nat)(ha:∀d∈a,d<10000)(hb:∀d∈b,d<10000)(aI:a.length<=4398046511104)(a2:b.length<=4398046511104) :
  qA ay9 159 [.ro (a.map i64),.ro (b.map i64)] (Vp 10000 (val 10000 a+val 10000 b) (max a.length b.length+1)):=by
 refine aj Tryz.func159 rfl (by simp) (λC hC=>?_);obtain⟨k,hk⟩:∃k,k=max a.length b.length:=⟨_,rfl⟩;obtain⟨s,hs⟩:∃s,s=val 10000 a+val 10000 b:=⟨_,rfl⟩;rw[<-hk,<-hs];simp;refine aa.nil 5 1 rfl ?_;refine aa.loop (ι:=List Nat × Nat)
  (λ⟨out,c⟩=>⟨52,[(0,.ro (a.map i64)),(1,.ro (b.map i64)),(5,.view 0 0 out.length),(6,.val (.int .i64 c)),(7,.val (.int .i64 out.length))],[some ⟨1,out.map i64,false⟩]⟩)
  (λ⟨out,c⟩=>out.length+c<=k+1∧c<=1∧(∀d∈out,d<10000) ∧
   val 10000 out+10000^out.length*(c+(val 10000 (a.drop out.length)+val 10000 (b.drop out.length)))=s)
  (λ⟨out,c⟩=>k+1 - out.length) ([],0) ?_ ?_ ?_
 ·simpa[val]using hs.symm
 ·simp[aP,hC]
 ·rintro⟨out,c⟩ ⟨h1,h2,h3,h4⟩;have bp:=dZ ha (by omega) out.length;have bq:=dZ hb (by omega) out.length;obtain⟨x,hx⟩:∃x,x=c+dg a out.length+dg b out.length:=⟨_,rfl⟩;have F1:∀d∈out++[x % 10000],d<10000:=pC h3 (by omega);have F2:val 10000 (out++[x % 10000])+10000^(out.length+1)*(x / 10000+(val 10000 (a.drop (out.length+1))+val 10000 (b.drop (out.length+1))))=s:=by
   rw[<-h4,Av,dH _ a out.length,dH _ b out.length,hx];congr 2;omega
  by_cases h5:out.length<a.length
  ·by_cases h6:out.length<b.length
   ·simp(disch:=omega)[h5,h6,aD,hC,dU,x5,yr];exact⟨by omega,out++[x % 10000],x / 10000,⟨by simp;omega,by omega,F1,by simpa using F2⟩,by simp;omega,by subst hx;simp[aP,hC]⟩
   ·have:=kq (l:=b) (i:=out.length) (by omega);rw[this]at hx;simp(disch:=omega)[h5,h6,aD,hC,dU,x5,yr];exact⟨by omega,out++[x % 10000],x / 10000,⟨by simp;omega,by omega,F1,by simpa using F2⟩,by simp;omega,by subst hx;simp[aP,hC]⟩
  ·have ga:=kq (l:=a) (i:=out.length) (by omega);by_cases h6:out.length<b.length
   ·rw[ga]at hx;simp(disch:=omega)[h5,h6,aD,hC,dU,x5,yr];exact⟨by omega,out++[x % 10000],x / 10000,⟨by simp;omega,by omega,F1,by simpa using F2⟩,by simp;omega,by subst hx;simp[aP,hC]⟩
   ·have gb:=kq (l:=b) (i:=out.length) (by omega);rw[ga,gb]at hx;by_cases hc:0<c
    ·have ac:c=1:=by omega
     subst ac;simp(disch:=omega)[h5,h6,aD,hC,x5,yr];exact⟨by omega,out++[x % 10000],x / 10000,⟨by simp;omega,by omega,F1,by simpa using F2⟩,by simp;omega,by subst hx;simp[aP,hC]⟩
    ·have ac:c=0:=by omega
     subst ac;have e1:a.drop out.length=[]:=aAn (by omega);have e2:b.drop out.length=[]:=aAn (by omega);simp only[e1,e2,val]at h4;simp(disch:=omega)[h5,h6];exact⟨_,by simp[aAp],out,rfl,h3,by simpa using h4,by omega⟩
theorem MF(a:List Nat)(x:Nat)(ha:∀d∈a,d<10000)(hx:x<10000)(aI:a.length<=2000000000000) :
  aE ay9 192 [.ro (a.map i64),.val (.int .i64 x)] (.ro ((bO 10000 (val 10000 a*x)).map i64)):=by
 refine aj Tryz.func192 rfl (by simp) (λC hC=>?_);obtain⟨s,hs⟩:∃s,s=val 10000 a*x:=⟨_,rfl⟩;rw[<-hs];simp;refine aa.nil 5 1 rfl ?_;refine aa.loop (ι:=List Nat × Nat)
  (λ⟨out,c⟩=>⟨39,[(0,.ro (a.map i64)),(1,.val (.int .i64 x)),(5,.view 0 0 out.length),(6,.val (.int .i64 c)),(7,.val (.int .i64 out.length))],[some ⟨1,out.map i64,false⟩]⟩)
  (λ⟨out,c⟩=>(out.length<=a.length∨out.length=a.length+1∧c=0)∧c<10000∧(∀d∈out,d<10000) ∧
   val 10000 out+10000^out.length*(c+x*val 10000 (a.drop out.length))=s)
  (λ⟨out,c⟩=>a.length+1 - out.length) ([],0) ?_ ?_ ?_
 ·exact⟨.inl (by simp),by omega,by simp,by simp[val,hs,ayZ]⟩
 ·simp[aP,hC]
 ·rintro⟨out,c⟩ ⟨h1,h2,h3,h4⟩;have bp:=dZ ha (by omega) out.length;obtain⟨p,hp⟩:∃p,p=dg a out.length*x:=⟨_,rfl⟩;have aJ:p<=9999*9999:=by rw[hp];exact aAD (by omega) (by omega)
  have am:(dg a out.length:Int)*x=p:=by rw[hp,aAG]
  obtain⟨y,hy⟩:∃y,y=c+p:=⟨_,rfl⟩;have F1:∀d∈out++[y % 10000],d<10000:=pC h3 (by omega);have F2:val 10000 (out++[y % 10000])+10000^(out.length+1)*(y / 10000+x*val 10000 (a.drop (out.length+1)))=s:=by rw[<-h4,Av,dH _ a out.length,hy,hp];congr 2;grind
  by_cases h5:out.length<a.length
  ·simp(disch:=omega)[h5,aD,hC,dU,x5,yr,am];exact⟨by omega,out++[y % 10000],y / 10000,⟨by simp;omega,by omega,F1,by simpa using F2⟩,by simp;omega,by subst hy;simp[aP,hC]⟩
  ·have ga:=kq (l:=a) (i:=out.length) (by omega);have an:p=0:=by rw[hp,ga];simp
   rw[an]at hy;by_cases hc:0<c
   ·simp(disch:=omega)[h5,hc,aD,hC,x5,yr];exact⟨by omega,out++[y % 10000],y / 10000,⟨by simp;omega,by omega,F1,by simpa using F2⟩,by simp;omega,by subst hy;simp[aP,hC]⟩
   ·have ac:c=0:=by omega
    subst ac;have e1:a.drop out.length=[]:=aAn (by omega);simp only[e1,val]at h4;simp(disch:=omega)[h5];refine bz (rv out (by omega)) (by simp[aAp]) ?_;have e:cG out=bO 10000 s:=by rw[<-gz (by omega) out h3];simp at h4;rw[h4]
    simp[e]
end Go.Proofs
namespace Go.Proofs
open Go.Sv Go Go.Pl
theorem A0(m n:Nat)(aK:n<=m)(hm:wid 10000 m<=4398046511104):aE ay9 161 [.ro ((bO 10000 m).map i64),.ro ((bO 10000 n).map i64)] (.ro ((bO 10000 (m - n)).map i64)):=by
 refine aj Tryz.func161 rfl (by simp) (λC hC=>?_);have B2:2<=10000:=by omega
 have hp:=cX B2 m;have hq:=cX B2 n;have a3:(bO 10000 n).length<=(bO 10000 m).length:=cH B2 aK;obtain⟨T,aL⟩:∃T,T=m - n:=⟨_,rfl⟩;have hT:val 10000 (bO 10000 m)=T+val 10000 (bO 10000 n):=by rw[cB B2,cB B2];omega
 rw[<-aL];simp only[wid]at hm;generalize bO 10000 m=p at *;generalize bO 10000 n=q at *;simp;refine aa.nil 5 1 rfl ?_;refine aa.loop (ι:=List Nat × Nat)
  (λ⟨o,c⟩=>⟨41,[(0,.ro (p.map i64)),(1,.ro (q.map i64)),(5,.view 0 0 o.length),(6,.val (.int .i64 c)),(7,.val (.int .i64 o.length))],[some ⟨1,o.map i64,false⟩]⟩)
  (λ⟨o,c⟩=>o.length<=p.length∧c<=1∧(∀d∈o,d<10000) ∧
   val 10000 o+10000^o.length*val 10000 (p.drop o.length)=T+10000^o.length*(c+val 10000 (q.drop o.length)))
  (λ⟨o,c⟩=>p.length - o.length) ([],0) ?_ ?_ ?_
 ·exact⟨by simp,by omega,by simp,by simpa[val]using hT⟩
 ·simp[aP,hC]
 ·rintro⟨o,c⟩ ⟨h1,h2,h3,h4⟩;have bp:=dZ hp (by omega) o.length;have bq:=dZ hq (by omega) o.length;by_cases aR:o.length<p.length
  ·have key:∀u c',dg p o.length+10000*c'=u+dg q o.length+c->val 10000 (o++[u])+10000^(o.length+1)*val 10000 (p.drop (o.length+1))=T+10000^(o.length+1)*(c'+val 10000 (q.drop (o.length+1))):=by
    intro u c' e;rw[dH _ p o.length,dH _ q o.length]at h4;rw[dq,ayX];simpa[val]using BA h4 e
   have fin:∀u c',dg p o.length+10000*c'=u+dg q o.length+c->u<10000->c'<=1 ->
     (o++[u]).length<=p.length∧c'<=1∧(∀d∈o++[u],d<10000)∧val 10000 (o++[u])+10000^(o++[u]).length*val 10000 (p.drop (o++[u]).length)=T+10000^(o++[u]).length*(c'+val 10000 (q.drop (o++[u]).length)):=λu c' e hu ac =>
    ⟨by simp;omega,ac,pC h3 hu,by simpa using key u c' e⟩
   by_cases ad:o.length<q.length
   ·by_cases ao:dg p o.length<c+dg q o.length
    ·have ab:(dg p o.length:Int) - c - dg q o.length<0:=by omega
     obtain⟨u,hu⟩:∃u:Nat,u=dg p o.length+10000 - c - dg q o.length:=⟨_,rfl⟩;have af:(dg p o.length:Int) - c - dg q o.length+10000=u:=by omega
     simp(disch:=omega)[aR,ad,aD,hC,dU,ab,af];exact⟨by omega,o++[u],1,fin u 1 (by omega) (by omega) (by omega),by simp;omega,by simp[aP,hC]⟩
    ·have ab:¬(dg p o.length:Int) - c - dg q o.length<0:=by omega
     obtain⟨u,hu⟩:∃u:Nat,u=dg p o.length - c - dg q o.length:=⟨_,rfl⟩;have af:(dg p o.length:Int) - c - dg q o.length=u:=by omega
     simp(disch:=omega)[aR,ad,aD,hC,dU,af];exact⟨by omega,by omega,o++[u],0,fin u 0 (by omega) (by omega) (by omega),by simp;omega,by simp[aP,hC]⟩
   ·have gq:=kq (l:=q) (i:=o.length) (by omega);by_cases ao:dg p o.length<c
    ·have ab:(dg p o.length:Int) - c<0:=by omega
     obtain⟨u,hu⟩:∃u:Nat,u=dg p o.length+10000 - c:=⟨_,rfl⟩;have af:(dg p o.length:Int) - c+10000=u:=by omega
     simp(disch:=omega)[aR,ad,aD,hC,dU,ab,af];exact⟨by omega,o++[u],1,fin u 1 (by omega) (by omega) (by omega),by simp;omega,by simp[aP,hC]⟩
    ·have ab:¬(dg p o.length:Int) - c<0:=by omega
     obtain⟨u,hu⟩:∃u:Nat,u=dg p o.length - c:=⟨_,rfl⟩;have af:(dg p o.length:Int) - c=u:=by omega
     simp(disch:=omega)[aR,ad,aD,hC,dU,af];exact⟨by omega,by omega,o++[u],0,fin u 0 (by omega) (by omega) (by omega),by simp;omega,by simp[aP,hC]⟩
  ·have hi:o.length=p.length:=by omega
   have e1:p.drop o.length=[]:=aAn (by omega);have e2:q.drop o.length=[]:=aAn (by omega);have h6:=mz o h3;rw[e1,e2]at h4;have h7:val 10000 o=T:=by
    rcases Nat.le_one_iff_eq_zero_or_eq_one.1 h2 with rfl | rfl
    ·simpa[val]using h4
    ·simp[val]at h4;omega
   simp(disch:=omega)[aR];refine bz (rv o (by omega)) (by simp[aAp]) ?_;have e:cG o=bO 10000 T:=by rw[<-gz (by omega) o h3,h7]
   simp[e]
def eO(x:Int):Prop:=wid 10000 x.natAbs<=1000000000000
theorem oI{x:Int}:eO (-x)↔eO x:=by simp[eO]
theorem za(x y:Int)(hm:eO x)(hn:eO y):aE ay9 111 [e9 x,e9 y] (e9 (x+y)):=by
 refine aj Tryz.func111 rfl (by simp) (λC hC=>?_);have B2:2<=10000:=by omega
 have vx:=cB B2 x.natAbs;have vy:=cB B2 y.natAbs;have lx:=cX B2 x.natAbs;have ly:=cX B2 y.natAbs;have ag:=hm;have ak:=hn;simp only[eO,wid]at ag ak;by_cases hs:(x<0↔y<0)
 ·simp[e9,hs];refine yk (PB _ _ lx ly (by omega) (by omega)) (by simp) ?_;rintro _ ⟨l,rfl,h1,h2,h3⟩;simp;have e:(if decide (y<0)=true then -(val 10000 l:Int) else(val 10000 l:Int))=x+y:=by
   rw[h2,vx,vy];split<;>simp_all<;>omega
  have ah:=rE (decide (y<0)) l (by omega) h1;rw[e]at ah;refine bz ah (by simp) ?_;simp[e9]
 ·have hc:=A4 _ _ (show wid 10000 x.natAbs<=4398046511104 by simp only[wid];omega) (show wid 10000 y.natAbs<=4398046511104 by simp only[wid];omega);have fin:∀(σ:Bool) (k:Nat),wid 10000 k<=4398046511104->(if σ=true then -(k:Int) else(k:Int))=x+y->aE ay9 145 [.val (.bool σ),.ro ((bO 10000 k).map i64)] (e9 (x+y)):=λσ k hk e=>by
   have:=rE σ (bO 10000 k) hk (cX B2 k)
   rwa [cB B2,e]at this
  rcases Nat.lt_or_ge x.natAbs y.natAbs with h | h
  ·have e0:eE x.natAbs y.natAbs = -1:=by simp[eE,h]
   rw[e0]at hc;have hl:=A0 y.natAbs x.natAbs (by omega) (by simp only[wid];omega);simp[e9,hs];refine bz hc (by simp) ?_;simp;refine bz hl (by simp) ?_;simp;refine bz (fin (decide (y<0)) (y.natAbs - x.natAbs) (ayr (cH B2 (aBp _ _)) (by simp only[wid];omega)) (by split<;>simp_all<;>omega)) (by simp) ?_;simp[e9]
  ·have e0:eE x.natAbs y.natAbs=if y.natAbs<x.natAbs then 1 else 0:=by simp[eE];omega
   rw[e0]at hc;have hl:=A0 x.natAbs y.natAbs (by omega) (by simp only[wid];omega);simp[e9,hs];refine bz hc (by simp) ?_;have e1:(0:Int)<=(if y.natAbs<x.natAbs then(1:Int) else 0):=by split<;>omega
   simp[e1];refine bz hl (by simp) ?_;simp;refine bz (fin (decide (x<0)) (x.natAbs - y.natAbs) (ayr (cH B2 (aBp _ _)) (by simp only[wid];omega)) (by split<;>simp_all<;>omega)) (by simp) ?_;simp[e9]
theorem Sn(x y:Int)(hm:eO x)(hn:eO y):aE ay9 179 [e9 x,e9 y] (e9 (x - y)):=by refine aj Tryz.func179 rfl (by simp) (λC hC=>?_);simp;refine bz (yQ y) (by simp) ?_;simp;refine bz (za x (-y) hm (oI.2 hn)) (by simp) ?_;simp[Int.sub_eq_add_neg]
end Go.Proofs
namespace Go.Proofs
open Go.Sv Go Go.Pl
theorem R3{B:Nat}{l:List Nat}{j:Nat}(u:Nat)(h:j<l.length):val B (l.set j u)+B^j*dg l j=val B l+B^j*u:=by
 induction l generalizing j with
 | nil=>simp at h
 | cons a l ih =>
  cases j with
  | zero=>simp[val,dg];omega
  | succ j =>
   have:=ih (j:=j) (by simpa using h);simp only[List.set_cons_succ,val];have e:dg (a::l) (j+1)=dg l j:=by simp[dg]
   rw[e,ayX];grind
theorem ad0{l l':List Nat}{n k:Nat}(h:l.drop n=l'.drop n)(hk:n<=k):dg l k=dg l' k:=by have e:=congrArg (λx=>x[k - n]?) h;simp only[List.getElem?_drop,show n+(k - n)=k by omega]at e;unfold dg;rw[aBn,aBn,e]
theorem jm(x y:Int)(hm:eO x)(hn:eO y) :
  aE ay9 99 [e9 x,e9 y] (e9 (x*y)):=by
 refine aj Tryz.func99 rfl (by simp) (λC hC=>?_);have B2:2<=10000:=by omega
 have vx:=cB B2 x.natAbs;have vy:=cB B2 y.natAbs;have lx:=cX B2 x.natAbs;have ly:=cX B2 y.natAbs;have aM:(if(decide (x<0) != decide (y<0))=true then -((x.natAbs*y.natAbs:Nat):Int) else((x.natAbs*y.natAbs:Nat):Int))=x*y:=JO x y;simp only[eO,wid]at hm hn;simp[e9];generalize bO 10000 x.natAbs=a at *;generalize bO 10000 y.natAbs=b at *;simp(disch:=omega)[aD];refine⟨by omega,?_⟩;refine aa.loop (ι:=List Nat × Nat)
  (λ⟨o,i⟩=>⟨79,[(2,.ptr 0 0 0),(3,.ptr 1 0 0),(4,.ptr 2 0 0),(5,.view 3 0 (a.length+b.length+1)),(6,.val (.int .i64 i))],
   [some ⟨2,[.agg [.val (.bool (decide (x<0))),.ro (a.map i64)]],false⟩,some ⟨2,[.agg [.val (.bool (decide (y<0))),.ro (b.map i64)]],false⟩,some ⟨2,[.agg [.val (.bool false),.val (.slice none 0 0)]],false⟩,some ⟨1,o.map i64,false⟩]⟩)
  (λ⟨o,i⟩=>o.length=a.length+b.length+1∧i<=a.length∧(∀d∈o,d<10000)∧(∀j,i+b.length<=j->dg o j=0)∧val 10000 o=val 10000 (a.take i)*val 10000 b)
  (λ⟨o,i⟩=>a.length - i) (awQ (a.length+b.length+1) 0,0) ?_ ?_ ?_
 ·refine⟨by simp,by omega,by simp,?_,?_⟩
  ·intro j _;unfold dg;rw[aBn,List.getElem?_replicate];split<;>rfl
  ·simp[EA];simp[val]
 ·simp[aP,hC];omega
 ·rintro⟨o,i⟩ ⟨h1,h2,h3,hz,h4⟩;by_cases aR:i<a.length
  ·simp(disch:=omega)[aR];have bx:=dZ lx (by omega) i;refine aa.loop (ι:=List Nat × Nat × Nat)
    (λ⟨o',j,c⟩=>⟨79,[(2,.ptr 0 0 0),(3,.ptr 1 0 0),(4,.ptr 2 0 0),(5,.view 3 0 (a.length+b.length+1)),(6,.val (.int .i64 i)),(7,.val (.int .i64 c)),(8,.val (.int .i64 j))],
     [some ⟨2,[.agg [.val (.bool (decide (x<0))),.ro (a.map i64)]],false⟩,some ⟨2,[.agg [.val (.bool (decide (y<0))),.ro (b.map i64)]],false⟩,some ⟨2,[.agg [.val (.bool false),.val (.slice none 0 0)]],false⟩,some ⟨1,o'.map i64,false⟩]⟩)
    (λ⟨o',j,c⟩=>o'.length=a.length+b.length+1∧(j<=b.length∨j=b.length+1∧c=0)∧c<10000∧(∀d∈o',d<10000)∧o'.drop (i+j)=o.drop (i+j) ∧
     val 10000 o'+10000^(i+j)*c=val 10000 o+10000^i*(dg a i*val 10000 (b.take j)))
    (λ⟨o',j,c⟩=>b.length+1 - j) (o,0,0) ?_ ?_ ?_
   ·exact⟨h1,by omega,by omega,h3,rfl,by simp[val]⟩
   ·simp[aP,hC]
   ·rintro⟨o',j,c⟩ ⟨g1,g2,g3,g4,g5,g6⟩;have hd:dg o' (i+j)=dg o (i+j):=uS g5;have bo:=dZ g4 (by omega) (i+j);have by_:=dZ ly (by omega) j;obtain⟨p,hp⟩:∃p,p=dg a i*dg b j:=⟨_,rfl⟩;have aJ:p<=9999*9999:=by rw[hp];exact aAD (by omega) (by omega)
    have am:(dg a i:Int)*dg b j=p:=by rw[hp,aAG]
    obtain⟨t,ht⟩:∃t,t=dg o' (i+j)+c+p:=⟨_,rfl⟩;have F:=kW (i+j) g4 (axH t (show 0<10000 by omega));have E:=Nat.mod_add_div t 10000;have K:val 10000 (o'.set (i+j) (t % 10000))+10000^(i+(j+1))*(t / 10000)=val 10000 o+10000^i*(dg a i*val 10000 (b.take (j+1))):=by have:=R3 (B:=10000) (t % 10000) (show i+j<o'.length by omega);rw[dJ];rw[<-axp,ayX];have e:(10000:Nat)^(i+j)=10000^i*10000^j:=Nat.pow_add ..;rw[e]at this g6 ⊢;grind
    have D:(o'.set (i+j) (t % 10000)).drop (i+(j+1))=o.drop (i+(j+1)):=by rw[<-axp,fL];exact jV g5
    by_cases al:j<b.length
    ·simp(disch:=omega)[al,aD,dU];refine⟨by omega,by omega,?_⟩;refine aa.awH (.qs [0,1,2,3,4,5,6,7,8,9,10,11,12,13]<|.nil) ?_;simp(disch:=omega)[al,aD,dU,am,x5,yr, -aAq];repeat refine And.intro (by omega) ?_
     refine⟨o'.set (i+j) (t % 10000),j+1,t / 10000,⟨by simpa using g1,by omega,by omega,F,D,K⟩,by omega,?_⟩;subst ht;simp[aP,hC,cq]
    ·have gb:=kq (l:=b) (i:=j) (by omega);have an:p=0:=by rw[hp,gb];simp
     rw[an]at ht;by_cases hc:0<c
     ·have a4:j=b.length:=by omega
      have ai:dg o' (i+j)=0:=by rw[hd];exact hz _ (by omega)
      rw[ai]at ht;have a5:t % 10000=c:=by omega
      have aN:t / 10000=0:=by omega
      simp(disch:=omega)[al,hc,aD,dU,ai,x5,yr, -aAq];repeat refine And.intro (by omega) ?_
      refine⟨o'.set (i+j) (t % 10000),j+1,t / 10000,⟨by simpa using g1,by omega,by omega,F,D,K⟩,by omega,?_⟩;subst ht;simp[aP,hC,cq]
     ·have ac:c=0:=by omega
      subst ac;simp(disch:=omega)[al,aD];refine⟨o',i+1,⟨g1,by omega,g4,λk hk=>?_,?_⟩,by omega,by simp[aP,hC]⟩
      ·rw[ad0 g5 (by omega)];exact hz _ (by omega)
      ·have tb:b.take j=b:=aAp (by omega);rw[tb,h4]at g6;rw[dJ];grind
  ·obtain rfl:i=a.length:=by omega
   simp(disch:=omega)[];have e1:a.take a.length=a:=List.take_length;rw[e1,vx,vy]at h4;have ah:=rE (decide (x<0) != decide (y<0)) o (by omega) h3;rw[h4,aM]at ah;refine bz ah (by simp[aAp,h1,bne]) ?_;simp[e9]
end Go.Proofs
namespace Go.Proofs
open Go.Sv Go Go.Pl
theorem ad4{P:Program}{C:Ctx}{c:Code}{st:St}{Q:bf}(t:Nat)(h:Sv.get st.fr t=some (.val (.slice none 0 0)))(h':aa P C c ⟨st.n,(t,.ro [])::st.fr,st.M⟩ Q):aa P C c st Q:=by
 rintro a w ⟨β,H,hF,hW⟩;refine h' a w ⟨β,H,⟨hF.1,hF.2.1,λt' x hg=>?_⟩,hW⟩;simp only[Sv.get]at hg;split at hg
 ·rename_i e;subst e;simp only[Option.some.injEq]at hg;subst hg;obtain⟨v,h1,h2⟩:=hF.2.2 t _ h;simp only[Den]at h2;exact⟨v,h1,by simp only[Den];exact .inl ⟨trivial,_,_,h2.1⟩⟩
 ·exact hF.2.2 t' x hg
theorem Ty{x y:Int}(h:0<=x):x.tdiv y=x / y:=aA8 h
theorem Mr{n x V:Nat}(hn:n≠0):(x+10000*V) / n=(x+10000*(V % n)) / n+10000*(V / n)∧(x+10000*V) % n=(x+10000*(V % n)) % n:=by
 have h:=aAX V n;have e:x+10000*V=x+10000*(V % n)+n*(10000*(V / n)):=by
  conv=>lhs;rw[<-h]
  grind
 rw[e,Nat.add_mul_div_left _ _ (by omega),Nat.add_mul_mod_self_left];exact⟨rfl,rfl⟩
theorem C8(m n:Nat)(hn:n≠0)(hm:wid 10000 m<=1000000000000)(ak:wid 10000 n<=1000000000000) :
  aE ay9 178 [.ro ((bO 10000 m).map i64),.ro ((bO 10000 n).map i64)] (.bM [.ro ((bO 10000 (m / n)).map i64),.ro ((bO 10000 (m % n)).map i64)]):=by
 refine aj Tryz.func178 rfl (by simp) (λC hC=>?_);have B2:2<=10000:=by omega
 have vm:=cB B2 m;have lm:=cX B2 m;have vn:=cB B2 n;have ln:=cX B2 n;simp only[wid]at hm;generalize bO 10000 m=a at *;subst vm;simp(disch:=omega)[aD];refine⟨by omega,?_⟩;refine ad4 7 rfl ?_;refine aa.loop (ι:=Nat × List Nat)
  (λ⟨i,o⟩=>⟨66,[(0,.ro (a.map i64)),(1,.ro ((bO 10000 n).map i64)),(6,.view 0 0 a.length),(7,.ro ((bO 10000 (val 10000 (a.drop i) % n)).map i64)),(8,.val (.int .i64 ((i:Int) - 1)))],[some ⟨1,o.map i64,false⟩]⟩)
  (λ⟨i,o⟩=>i<=a.length∧o.length=a.length∧(∀d∈o,d<10000)∧val 10000 (o.drop i)=val 10000 (a.drop i) / n)
  (λ⟨i,o⟩=>i) (a.length,awQ a.length 0) ?_ ?_ ?_
 ·refine⟨by omega,by simp,by simp,?_⟩;simp[val]
 ·simp[aP,hC,val,bu]
 ·rintro⟨i,o⟩ ⟨h1,h2,h3,h4⟩;cases i with
  | zero =>
   simp(disch:=omega)[];refine bz (rv o (by omega)) (by simp[aAp,h2]) ?_;have e:cG o=bO 10000 (val 10000 a / n):=by rw[<-gz (by omega) o h3];simp at h4;rw[h4]
   simp[e]
  | succ i =>
   obtain⟨V,hV⟩:∃V,V=val 10000 (a.drop (i+1)):=⟨_,rfl⟩;have bx:=dZ lm (by omega) i;have aO:val 10000 (a.drop i)=dg a i+10000*V:=by rw[dH,hV]
   obtain⟨r,hr⟩:∃r,r=dg a i+10000*(V % n):=⟨_,rfl⟩;obtain⟨s1,s2⟩:=Mr (x:=dg a i) (V:=V) hn;rw[<-hr,<-aO]at s1 s2;simp only[<-hV]at h4 ⊢;have a6:V % n<n:=axH _ (by omega);have aQ:r<10000*n:=by omega
   have wr:wid 10000 r<=1000000000002:=by have:=Ez (B:=10000) (by omega) 10000 n;have e2:wid 10000 10000<=2:=iC (by omega) (by omega);have:=cH (B:=10000) (by omega) (show r<=10000*n by omega);omega
   have lr:(bO 10000 (V % n)).length<=1000000000000:=ayr (cH (B:=10000) (by omega) (show V % n<=n by omega)) ak;have er:cG (dg a i::bO 10000 (V % n))=bO 10000 r:=by
    rw[<-gz (by omega) _ (by
     intro d hd;rcases List.mem_cons.1 hd with rfl | hd
     ·exact bx
     ·exact cX B2 _ d hd)]
    rw[val,cB B2,hr]
   have ht:=rv (dg a i::bO 10000 (V % n)) (by simp;omega);rw[er]at ht;simp(disch:=omega)[hC,dU];refine⟨by omega,by omega,?_⟩;refine bz ht (by simp[aAp,Nat.add_comm]) ?_;simp;refine aa.loop (ι:=Nat × Nat)
    (λ⟨l,h⟩=>⟨66,[(0,.ro (a.map i64)),(1,.ro ((bO 10000 n).map i64)),(6,.view 0 0 a.length),(7,.ro ((bO 10000 r).map i64)),(8,.val (.int .i64 i)),(9,.val (.int .i64 l)),(10,.val (.int .i64 h))],[some ⟨1,o.map i64,false⟩]⟩)
    (λ⟨l,h⟩=>l<=r / n∧r / n<=h∧h<=9999) (λ⟨l,h⟩=>h - l) (0,9999) ?_ ?_ ?_
   ·refine⟨Nat.zero_le _,?_,by omega⟩;have:=(Nat.div_lt_iff_lt_mul (ayU hn)).2 aQ;omega
   ·simp[aP,hC]
   ·rintro⟨l,h⟩ ⟨g1,g2,g3⟩;have ax:∀k:Nat,k<10000->aE ay9 192 [.ro ((bO 10000 n).map i64),.val (.int .i64 k)] (.ro ((bO 10000 (n*k)).map i64)):=λk hk=>by
     have:=MF (bO 10000 n) k ln hk (ayr ak (by omega))
     rwa [vn]at this
    have wk:∀k:Nat,k<10000->wid 10000 (n*k)<=1000000000001:=λk hk=>by have:=Ez (B:=10000) (by omega) n k;have e2:wid 10000 k<=1:=iC (by omega) (by omega);omega
    by_cases ay:l<h
    ·obtain⟨k,hk⟩:∃k,k=(l+h+1) / 2:=⟨_,rfl⟩;have aS:((l:Int)+h+1).tdiv 2=k:=by rw[Ty (by omega)];omega
     simp(disch:=omega)[aD,ay,aS];refine bz (ax k (by omega)) (by simp) ?_;simp;refine bz (A4 (n*k) r (ayr (wk k (by omega)) (by omega)) (ayr wr (by omega))) (by simp) ?_;have kk:n*k<=r↔k<=r / n:=by rw[Nat.le_div_iff_mul_le (ayU hn),ayZ]
     by_cases hc:n*k<=r
     ·have e0:eE (n*k) r<=0:=by unfold eE;split<;>(try split)<;>omega
      simp[e0];exact⟨k,h,⟨kk.1 hc,g2,g3⟩,by omega,by simp[aP,hC]⟩
     ·have e0:¬eE (n*k) r<=0:=by unfold eE;rw[if_neg (by omega),if_pos (by omega)];omega
      have e1:((k:Int) - 1)=((k - 1:Nat):Int):=by omega
      have nk:¬k<=r / n:=λh=>hc (kk.2 h);simp(disch:=omega)[e0,aD];exact⟨l,k - 1,⟨g1,by omega,by omega⟩,by omega,by simp[aP,hC,e1]⟩
    ·have hl:l=r / n:=by omega
     simp(disch:=omega)[ay,dU,M4, -aAq];refine⟨by omega,by omega,?_⟩;have l9:l<10000:=by omega
     refine bz (ax l l9) (by simp) ?_;simp;have aT:n*l<=r:=by rw[hl];exact Nat.mul_div_le r n
     refine bz (A0 r (n*l) aT (ayr wr (by omega))) (by simp) ?_;have e5:r - n*l=r % n:=by have:=aAX r n;rw[hl];omega
     simp only[e5];simp(disch:=omega)[aD];refine⟨i,o.set i l,⟨by omega,by simpa using h2,kW i h3 l9,?_⟩,by omega,?_⟩
     ·rw[dH,fL,h4,s1];have:dg (o.set i l) i=l:=by simp[dg,aBn,List.getElem?_set_self (show i<o.length by omega)]
      rw[this,hl]
     ·simp[aP,hC,s2]
end Go.Proofs
namespace Go.Proofs
open Go.Sv Go Go.Pl
theorem Ek{x y:Int}(h:y.natAbs<=x.natAbs)(hx:eO x):eO y:=ayr (cH (by omega) h) hx
theorem A3{x:Int}(h:x.natAbs<10000^7):eO x:=ayr (iC (by omega) h) (by omega)
theorem oF(b:Bool)(n:Nat)(h:wid 10000 n<=1000000000000):aE ay9 145 [.val (.bool b),.ro ((bO 10000 n).map i64)] (e9 (if b=true then -(n:Int) else(n:Int))):=by
 have:=rE b (bO 10000 n) (by simp only[wid]at h;omega) (cX (by omega) n)
 rwa [cB (by omega)]at this
theorem Al(x y:Int)(hx:eO x)(hy:eO y) :
  aE ay9 144 [e9 x,e9 y] (.bM [e9 (x / y),e9 (if y=0 then 0 else x % y),.val (.bool (decide (y≠0)))]):=by
 refine aj Tryz.func144 rfl (by simp) (λC hC=>?_);by_cases h0:y=0
 ·subst h0;simp[e9,bu]
 ·have az:y.natAbs≠0:=by omega
  have aw:¬(bO 10000 y.natAbs)=[]:=λh=>az ((bW (by omega)).1 h);have aU:x.natAbs / y.natAbs<=x.natAbs:=Nat.div_le_self _ _;have aV:x.natAbs % y.natAbs<=x.natAbs:=Nat.mod_le _ _;have a7:=axH x.natAbs (show 0<y.natAbs by omega);have aX:=aAX x.natAbs y.natAbs;have hl:=C8 x.natAbs y.natAbs az hx hy;generalize x.natAbs / y.natAbs=Q at *;generalize x.natAbs % y.natAbs=R at *;have aA:=oF (decide (x<0) != decide (y<0)) Q (ayr (cH (by omega) aU) hx);have aB:=oF (decide (x<0)) R (ayr (cH (by omega) aV) hx);obtain⟨q,hq⟩:∃q,q=(if(decide (x<0) != decide (y<0))=true then -(Q:Int) else(Q:Int)):=⟨_,rfl⟩;obtain⟨r,hr⟩:∃r,r=(if decide (x<0)=true then -(R:Int) else(R:Int)):=⟨_,rfl⟩;rw[<-hq]at aA;rw[<-hr]at aB;have ap:x=r+y*q:=by
   have ae:(y.natAbs:Int)*Q+R=x.natAbs:=by rw[<-aAG,<-Int.natCast_add,aX]
   by_cases h1:x<0<;>by_cases h2:y<0
   ·have e1:(x.natAbs:Int) = -x:=by omega
    have e2:(y.natAbs:Int) = -y:=by omega
    rw[e1,e2]at ae;simp[h1,h2]at hq hr;subst hq hr;grind
   ·have e1:(x.natAbs:Int) = -x:=by omega
    have e2:(y.natAbs:Int)=y:=by omega
    rw[e1,e2]at ae;simp[h1,h2]at hq hr;subst hq hr;grind
   ·have e1:(x.natAbs:Int)=x:=by omega
    have e2:(y.natAbs:Int) = -y:=by omega
    rw[e1,e2]at ae;simp[h1,h2]at hq hr;subst hq hr;grind
   ·have e1:(x.natAbs:Int)=x:=by omega
    have e2:(y.natAbs:Int)=y:=by omega
    rw[e1,e2]at ae;simp[h1,h2]at hq hr;subst hq hr;grind
  have a8:r.natAbs=R:=by rw[hr];split<;>omega
  have a9:q.natAbs=Q:=by rw[hq];split<;>omega
  have fq:eO q:=Ek (x:=x) (by omega) hx;have fr:eO r:=Ek (x:=x) (by omega) hx;simp[e9,aw,h0];refine bz hl (by simp) ?_;simp;refine bz aA (by simp[bne]) ?_;simp;refine bz aB (by simp) ?_;by_cases aq:r<0
  ·have ha:=za r (y.natAbs:Int) fr (by simpa[eO]using hy);have ba:¬(y.natAbs:Int)<0:=by omega
   simp[e9,aq,bne];refine bz ha (by simp[e9,aq]) ?_;simp[e9];by_cases aF:y<0
   ·obtain⟨u1,u2⟩:=LJ (x:=x) (y:=y) (q:=q+1) (r:=r+y.natAbs) h0 (by rw[ap];grind) (by omega) (by omega);have ar:¬(0:Int)<=y:=by omega
    simp[aF,ar];refine aa.awH (.qs [0]<|.l 1 []<|.l 2 []<|.l 3 [4]<|.nil) ?_;simp;refine bz (kd 1 (by omega) (by omega)) (by simp) ?_;simp[e9];refine bz (za q 1 fq (A3 (by simp))) (by simp[e9]) ?_;simp[e9];refine aa.awH (.qs [0]<|.q 1 [2]<|.l 2 [2]<|.l 3 [3]<|.qs [4]<|.nil) ?_;simp[u1,u2];try omega
   ·obtain⟨u1,u2⟩:=LJ (x:=x) (y:=y) (q:=q - 1) (r:=r+y.natAbs) h0 (by rw[ap];grind) (by omega) (by omega);have ar:0<=y:=by omega
    simp[aF,ar];refine aa.awH (.qs [0]<|.l 1 []<|.l 2 []<|.l 3 [4]<|.nil) ?_;simp;refine bz (kd 1 (by omega) (by omega)) (by simp) ?_;simp[e9];refine bz (Sn q 1 fq (A3 (by simp))) (by simp[e9]) ?_;simp[e9];refine aa.awH (.qs [0]<|.q 1 [2]<|.l 2 [2]<|.l 3 [3]<|.qs [4]<|.nil) ?_;simp[u1,u2];try omega
  ·obtain⟨u1,u2⟩:=LJ (x:=x) (y:=y) (q:=q) (r:=r) h0 ap (by omega) (by omega);simp[e9,aq];refine aa.awH (.qs [0]<|.q 1 [2]<|.l 2 [2]<|.l 3 [3]<|.qs [4]<|.nil) ?_;simp[u1,u2];try omega
theorem SL(x y:Int)(hx:eO x)(hy:eO y):aE ay9 143 [e9 x,e9 y] (e9 (aA5 x y:Nat)):=by
 refine aj Tryz.func143 rfl (by simp) (λC hC=>?_);have e:aA5 x y=Nat.gcd x.natAbs y.natAbs:=rfl;have bb:¬((aA5 x y:Nat):Int)<0:=by omega
 simp[e9];refine aa.loop (ι:=Nat × Nat) (λ⟨m,n⟩=>⟨26,[(4,.ptr 2 0 0),(5,.ro ((bO 10000 m).map i64)),(6,.ro ((bO 10000 n).map i64))],
   [none,none,some ⟨2,[.agg [.val (.bool false),.val (.slice none 0 0)]],false⟩]⟩)
  (λ⟨m,n⟩=>wid 10000 m<=1000000000000∧wid 10000 n<=1000000000000∧Nat.gcd m n=aA5 x y) (λ⟨m,n⟩=>n) (x.natAbs,y.natAbs) ?_ ?_ ?_
 ·exact⟨hx,hy,e.symm⟩
 ·simp[aP,hC]
 ·rintro⟨m,n⟩ ⟨h1,h2,h3⟩;by_cases hn:n=0
  ·subst hn;simp at h3;simp[bu,h3]
  ·have au:0<(bO 10000 n).length:=aAm.2 λh=>hn ((bW (by omega)).1 h);simp[au];refine bz (C8 m n hn h1 h2) (by simp) ?_;simp;have aR:=axH m (show 0<n by omega);refine⟨n,m % n,⟨h2,ayr (cH (by omega) (by omega)) h2,by rw[aA0 n,<-Nat.gcd_rec,aA0,h3]⟩,aR,by simp[aP,hC]⟩
end Go.Proofs
namespace Go.Proofs
open Go.Sv Go Go.Pl
def sb(L:List Nat):ByteArray:=strOf (L.map u8)
theorem yW(L:List Nat):(sb L).data.toList=L.map UInt8.ofNat:=by unfold sb strOf;rw[strOfNums_data];simp[Bv]
theorem xE(L R:List Nat):sb L++sb R=sb (L++R):=by apply ByteArray.ext;apply Array.toList_inj.1;simp[yW]
@[simp] theorem o3(L:List Nat):(sb L).size=L.length:=by have:=congrArg List.length (yW L);simpa using this
theorem PR{L:List Nat}{i:Nat}(h:i<L.length)(hL:∀d∈L,d<256):(eL (sb L) i).toNat=dg L i:=by unfold eL;rw[Array.getD_eq_getD_getElem?,<-Array.getElem?_toList,yW];simp[h,dg,aBn];exact hL _ (List.getElem_mem h)
def f4(x:Nat):List Nat:=[x % 10,x / 10 % 10,x / 100 % 10,x / 1000]
def L4(l:List Nat):List Nat:=l.flatMap f4
theorem PI(l:List Nat):(L4 l).length=4*l.length:=by
 induction l with
 | nil=>rfl
 | cons x l ih =>
  have e:L4 (x::l)=f4 x++L4 l:=rfl;rw[e];simp[ih,f4];omega
theorem abb{x y:Int}(h:0<=x):x.tmod y=x % y:=aA2 h
end Go.Proofs
namespace Go.Proofs
open Go.Sv Go Go.Pl
theorem L9(c:Nat)(hc:c<256):aE ay9 181 [.val (.int .u8 c)] (.val (.bool (decide (qu c)))):=by refine aj Tryz.func181 rfl (by simp) (λC hC=>?_);rw[show decide (qu c)=(decide ((48:Int)<=c)&&decide ((c:Int)<=57)) by rw[<-Bool.decide_and];congr 1;simp[qu];omega];by_cases h1:(48:Int)<=c<;>by_cases h2:(c:Int)<=57<;>simp[h1,h2]
def fZ(c:Nat)(a:Int):SV:=.agg [.val (.int .i64 c),.val (.int .i64 a)]
theorem zR(s:ByteArray)(a b:Nat):∀k,nv s a (b+k)=nv s a b*10^k+nv s (a+b) k
 | 0=>by simp[nv]
 | k+1=>by have ih:=zR s a b k;rw[<-axp];simp only[nv,ih,ayX,axp];grind
theorem uq(t:ByteArray)(ht:t.size<=900000000000)(hd:∀i,i<t.size->bI t i):aE ay9 152 [.val (.string t)] (e9 (nv t 0 t.size:Nat)):=by
 refine aj Tryz.func152 rfl (by simp) (λC hC=>?_);simp;refine aa.nil 3 1 rfl ?_;refine aa.loop (ι:=Int × List Nat) (λ⟨to,d⟩=>⟨36,[(0,.val (.string t)),(2,.ptr 0 0 0),(3,.view 1 0 d.length),(4,.val (.int .i64 to))],
   [some ⟨2,[.agg [.val (.bool false),.val (.slice none 0 0)]],false⟩,some ⟨1,d.map i64,false⟩]⟩)
  (λ⟨to,d⟩ => -4<to∧to+4*d.length=t.size∧(∀x∈d,x<10000)∧val 10000 d+10000^d.length*nv t 0 to.toNat=nv t 0 t.size)
  (λ⟨to,d⟩=>(to+4).toNat) ((t.size:Int),[]) ?_ ?_ ?_
 ·exact⟨by omega,by simp,by simp,by simp[val]⟩
 ·simp[aP,hC]
 ·rintro⟨to,d⟩ ⟨h1,h2,h3,h4⟩;by_cases h0:0<to
  ·have tn:(to.toNat:Int)=to:=by omega
   obtain⟨a,hA⟩:∃a,a=(to - 4).toNat:=⟨_,rfl⟩;have bc:d.length<=900000000000:=by omega
   simp(disch:=omega)[h0,aD];refine aa.loop (ι:=Int × Nat) (λ⟨i,x⟩=>⟨36,[(0,.val (.string t)),(2,.ptr 0 0 0),(3,.view 1 0 d.length),(4,.val (.int .i64 to)),(5,.val (.int .i64 x)),(6,.val (.int .i64 i))],
     [some ⟨2,[.agg [.val (.bool false),.val (.slice none 0 0)]],false⟩,some ⟨1,d.map i64,false⟩]⟩)
    (λ⟨i,x⟩=>to - 4<=i∧i<=to∧x=nv t a (i.toNat - a)) (λ⟨i,x⟩=>(to - i).toNat) (to - 4,0) ?_ ?_ ?_
   ·refine⟨by omega,by omega,?_⟩;rw[<-hA,Nat.sub_self];rfl
   ·simp[aP,hC]
   ·rintro⟨i,x⟩ ⟨g1,g2,g3⟩;have xl:∀k,a+k<=t.size->nv t a k<10^k:=λk hk=>vg λj j1 j2=>hd j (by omega);by_cases aR:i<to
    ·by_cases av:0<=i
     ·obtain⟨k,rfl⟩:∃k:Nat,i=k:=⟨i.toNat,by omega⟩;have hk:k<t.size:=by omega
      have aY:=(hd k hk).2;unfold qu kJ at aY;have hx:x<1000:=by have:=xl (k - a) (by omega);have:(10:Nat)^(k - a)<=10^3:=ay2 (by omega) (by omega);rw[g3];simp only[aBo];omega
      obtain⟨c,hc⟩:∃c,c=(eL t k).toNat - 48:=⟨_,rfl⟩;have ac:IntKind.u8.wrap (((eL t k).toNat:Int) - 48)=c:=by rw[SW];omega
      have st:10*x+c=nv t a (k+1 - a):=by
       have e:k+1 - a=(k - a)+1:=by omega
       have e2:a+(k - a)=k:=by omega
       rw[e];simp only[nv,e2];simp only[aBo]at g3;unfold kJ;rw[<-g3,hc];omega
      simp(disch:=omega)[aR,av,aD,ac,hk];exact⟨k+1,10*x+c,⟨by omega,by omega,by rw[st];congr 1⟩,by omega,by simp[aP,hC]⟩
     ·have bd:¬(0:Int)<=i:=av;have a0:a=0:=by omega
      simp(disch:=omega)[aR,av,aD];exact⟨i+1,x,⟨by omega,by omega,by rw[g3,a0];congr 1;omega⟩,by omega,by simp[aP,hC]⟩
    ·have aZ:i=to:=by omega
     subst aZ;have sp:=zR t 0 a (i.toNat - a);rw[show a+(i.toNat - a)=i.toNat by omega,Nat.zero_add,<-g3]at sp;have hx:x<10000:=by have:=xl (i.toNat - a) (by omega);have:(10:Nat)^(i.toNat - a)<=10^4:=ay2 (by omega) (by omega);omega
     have a1:nv t 0 i.toNat=x+10000*nv t 0 a:=by
      by_cases be:4<=i
      ·rw[sp,show i.toNat - a=4 by omega];omega
      ·have a0:a=0:=by omega
       rw[sp,a0];simp[nv]
     simp(disch:=omega)[aD,hC];refine⟨by omega,i - 4,d++[x],⟨by omega,by simp;omega,pC h3 hx,?_⟩,by omega,by simp[aP,hC]⟩;rw[<-hA,dq,List.length_append,List.length_singleton,ayX,<-h4,a1];simp only[val];grind
  ·have e0:to.toNat=0:=by omega
   rw[e0]at h4;have h5:val 10000 d=nv t 0 t.size:=by simpa[nv]using h4
   have hm:=rE false d (by omega) h3;rw[h5]at hm;simp[h0];refine bz hm (by simp[aAp]) ?_;simp
end Go.Proofs
namespace Go.Proofs
open Go.Sv Go Go.Pl
end Go.Proofs

