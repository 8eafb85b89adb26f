/- A text of the prover's own. -/
import Derived.Test.YtnimjdcaajmfcaaGreatDoorVPl
import Derived.Test.YtnimjdcaajmfcaaGreatDoorVTy
open Go.Proofs.Tryz renaming prog->ay9,func147->aAj
open List renaming eq_nil_or_concat->aAk,concat_eq_append->aAl,length_pos_iff->aAm,drop_eq_nil_of_le->aAn,take_succ_eq_append_getElem->aAo,take_of_length_le->aAp,length_cons->awV,map_set->aAq,replicate->awQ,length_take->aAc,take_length->aAr
open Go.IntKind renaming u64->ay4,u32->ay5
open Nat renaming le_trans->ayr,lt_or_ge->axT,min_eq_left->aAs,two_pow_add_eq_or_of_lt->aAt,or_comm->aAu,two_pow_pos->aAv,pow_add->aAw,mod_add_div->ayW,mod_lt->axH,div_lt_iff_lt_mul->aAx,mul_le_mul_left->ay1,add_mul_div_left->aAy,div_eq_of_lt->aAz,add_mul_mod_self_left->aAA,mod_eq_of_lt->aAB,mul_le_mul_right->axn,add_mul->awM,mul_assoc->ay0,mul_lt_mul_of_pos_left->aAC,pow_succ->ayX,mul_le_mul->aAD,add_assoc->axp,mul_zero->aAE,add_zero->axU,pow_le_pow_right->ay2
open Int renaming lt_trichotomy->aAF,natCast_mul->aAG,neg_mul->aAH,mul_neg->aAI,mul_comm->aAJ
open BitVec renaming ofInt->aw3,toNat_ofInt->aAK,toNat_or->aAL
open And renaming intro->aAM
set_option maxRecDepth 10000
namespace Go.Proofs
open Go.Sv Go Go.Pl
def dm(x:Int):SV:=.agg [.val (.bool (decide (x<0))),.ro ((bO 4294967296 x.natAbs).map u32)]
@[simp] theorem ajX(x:Int):(dm x).ir=2:=rfl
@[simp] theorem YE(x:Int):(dm x).aW=false:=rfl
@[simp] theorem YD(x:Int):(dm x).isAgg=true:=rfl
@[simp] theorem aan(x:Int):(dm x).pure=true:=rfl
@[simp] theorem alq(n:Nat)(x:Int):(dm x).lt n=true:=rfl
@[simp] theorem amC(x:Int):(dm x).ks=[]:=rfl
@[simp] theorem ahC(M:aC)(x:Int)(y:SV):Sub M (dm x) y=(y=dm x):=by
 cases y with
 | agg l =>
  match l with
  | []=>simp[dm,cP]
  | [a]=>simp[dm,Sv.Sub,cP]
  | a::b::c::r=>simp[dm,Sv.Sub,cP]
  | [a,b]=>cases a<;>simp[dm,Sv.Sub,cP];intro _;exact eq_comm
 | _=>simp[dm,Sv.Sub]
theorem pD(xs:List Nat)(h:xs.length<=4398046511104):aE ay9 147 [.ro (xs.map u32)] (.ro ((cG xs).map u32)):=by
 refine aj aAj rfl (by simp) (λC hC=>?_);simp;refine aa.loop (ι:=List Nat) (λl=>⟨21,[(0,.ro (l.map u32))],[]⟩) (λl=>l.length<=4398046511104∧cG l=cG xs) (λl=>l.length) xs ?_ ?_ ?_
 ·simp[h]
 ·simp[aP]
 ·rintro l ⟨hl,ht⟩;rcases aAk l with rfl | ⟨zs,z,rfl⟩
  ·simp[<-ht];simp[cG]
  ·simp at hl;rw[aAl]at ht;simp(disch:=omega)[aD];refine⟨by omega,λhz=>⟨by omega,zs,⟨by omega,by rw[<-ht,hz,lV]⟩,by omega,by simp[aP,hC]⟩,λhz=>?_⟩;simp[<-ht,pT _ hz]
theorem lz(b:Bool)(xs:List Nat)(h:xs.length<=4398046511104)(hx:∀d∈xs,d<4294967296) :
  aE ay9 136 [.val (.bool b),.ro (xs.map u32)] (dm (if b=true then -(val 4294967296 xs:Int) else(val 4294967296 xs:Int))):=by
 refine aj Tryz.func136 rfl (by simp) (λC hC=>?_);simp;refine bz (pD xs h) (by simp) ?_;rw[<-gz (by omega) xs hx];generalize val 4294967296 xs=n;cases b with
 | false=>
  simp[dm]
 | true =>
  simp[dm,aAm,bW];by_cases h:n=0<;>simp[h];omega
theorem oS(n:Int)(h1 : -9223372036854775808<=n)(h2:n<=9223372036854775807):aE ay9 103 [.val (.int .i64 n)] (dm n):=by
 refine aj Tryz.func103 rfl (by simp) (λC hC=>?_);have key:∀m:Nat,m<=9223372036854775808->bO 4294967296 m=cG [m % 4294967296,m / 4294967296]:=λm hm=>by rw[<-gz (B:=4294967296) (by omega) _ (by simp;omega)];congr 1;simp[val];omega
 by_cases hn:n<0
 ·obtain⟨m,rfl⟩:∃m:Nat,n = -(m:Int):=⟨n.natAbs,by omega⟩;have hm:0<m:=by omega
  have e1:ay4.wrap (-ay4.wrap (-(m:Int)))=m:=by simp only[HC];omega
  have e2:ay5.wrap ((m:Int) / 4294967296)=((m / 4294967296:Nat):Int):=by simp only[iY];omega
  simp[hm,e1,e2,iY];refine bz (pD [m % 4294967296,m / 4294967296] (by simp)) (by simp) ?_;simp;refine bz (lz true (cG [m % 4294967296,m / 4294967296]) (ayr (u4 _) (by simp)) (Hj _ (by simp;omega))) (by simp) ?_;simp[Fo,val,dm];rw[show((m:Int) % 4294967296+4294967296*((m:Int) / 4294967296))=m from by omega];simp
 ·obtain⟨m,rfl⟩:∃m:Nat,n=(m:Int):=⟨n.natAbs,by omega⟩;have e1:ay4.wrap (m:Int)=m:=by simp only[HC];omega
  have e2:ay5.wrap ((m:Int) / 4294967296)=((m / 4294967296:Nat):Int):=by simp only[iY];omega
  simp[hn,e1,e2,iY];refine bz (pD [m % 4294967296,m / 4294967296] (by simp)) (by simp) ?_;simp;refine bz (lz false (cG [m % 4294967296,m / 4294967296]) (ayr (u4 _) (by simp)) (Hj _ (by simp;omega))) (by simp) ?_;simp[Fo,val,dm];rw[show((m:Int) % 4294967296+4294967296*((m:Int) / 4294967296))=m from by omega];simp
end Go.Proofs
namespace Go.Proofs
open Go.Sv Go Go.Pl
theorem tE(m n:Nat)(hm:wid 4294967296 m<=4398046511104)(hn:wid 4294967296 n<=4398046511104) :
  aE ay9 149 [.ro ((bO 4294967296 m).map u32),.ro ((bO 4294967296 n).map u32)] (.val (.int .i64 (eE m n))):=by
 refine aj Tryz.func149 rfl (by simp) (λC hC=>?_);have vm:=cB (B:=4294967296) (by omega) m;have vn:=cB (B:=4294967296) (by omega) n;have lm:=cX (B:=4294967296) (by omega) m;have ln:=cX (B:=4294967296) (by omega) n;simp only[wid]at hm hn;simp;refine⟨λak=>⟨λaR=>?_,λaJ=>?_⟩,λhe=>?_⟩
 ·simp[eE,rS (by omega) aR]
 ·have:=rS (B:=4294967296) (m:=n) (n:=m) (by omega) (by omega);simp[eE,this];omega
 ·refine aa.loop (ι:=List Nat × List Nat × List Nat) (λ⟨la,lb,r⟩=>⟨41,[(0,.ro ((la++r).map u32)),(1,.ro ((lb++r).map u32)),(5,.val (.int .i64 ((la.length:Int) - 1)))],[]⟩)
   (λ⟨la,lb,r⟩=>bO 4294967296 m=la++r∧bO 4294967296 n=lb++r∧la.length=lb.length) (λ⟨la,lb,r⟩=>la.length) (bO 4294967296 m,bO 4294967296 n,[]) ?_ ?_ ?_
  ·simp;omega
  ·simp(disch:=omega)[aP,aD]
  ·rintro⟨la,lb,r⟩ ⟨h1,h2,h3⟩;rcases aAk la with rfl | ⟨la,x,rfl⟩
   ·have:lb=[]:=by cases lb<;>simp_all
    subst this;simp;have:m=n:=by rw[<-vm,<-vn,h1,h2]
    simp[eE,this]
   ·rcases aAk lb with rfl | ⟨lb,y,rfl⟩
    ·simp at h3
    simp at h1 h2 h3;simp[h3];have hl:lb.length<4398046511104:=by rw[h2]at hn;simp at hn;omega
    refine aa.awH (.qs [0,1,2,3,4,5,6,7,8] .nil) ?_;have c1:x<y->m<n:=λh=>by rw[<-vm,<-vn,h1,h2];exact yT (λd hd=>lm d (by rw[h1];simp[hd])) h3 h
    have c2:y<x->n<m:=λh=>by rw[<-vm,<-vn,h1,h2];exact yT (λd hd=>ln d (by rw[h2];simp[hd])) h3.symm h
    simp(disch:=omega)[zh,aD];refine⟨by omega,by omega,λak=>?_,λhe=>?_⟩
    ·refine aa.draw (.qs [0,1,2,3,4,5,6,7,8] .nil) (by kernel_rfl) (by kernel_rfl) (by simp) ?_;simp(disch:=omega)[zh];refine⟨by omega,by omega,λaR=>?_,λaJ=>?_⟩
     ·simp[eE,c1 aR]
     ·have:=c2 (by omega);simp[eE,this];omega
    ·refine⟨la,lb,y::r,?_⟩;have he:x=y:=by omega
     simp[h1,h2,h3,he,aP,hC]
theorem Il(x y:Int)(hm:wid 4294967296 x.natAbs<=4398046511104)(hn:wid 4294967296 y.natAbs<=4398046511104) :
  aE ay9 133 [dm x,dm y] (.val (.int .i64 (if x<y then -1 else if y<x then 1 else 0))):=by
 refine aj Tryz.func133 rfl (by simp) (λC hC=>?_);have hc:=tE _ _ hm hn;by_cases hx:x<0<;>by_cases hy:y<0<;>simp[dm,hx,hy]
 ·refine bz hc (by simp) ?_;rcases aAF x y with h | h | h
  ·have e:eE x.natAbs y.natAbs=1:=by rw[eE,if_neg (by omega),if_pos (by omega)]
   simp[e,h,aD]
  ·subst h;simp[eE,aD]
  ·have e:eE x.natAbs y.natAbs = -1:=by rw[eE,if_pos (by omega)]
   have:¬x<y:=by omega
   simp[e,h,this,aD]
 ·omega
 ·omega
 ·refine bz hc (by simp) ?_;rcases aAF x y with h | h | h
  ·have e:eE x.natAbs y.natAbs = -1:=by rw[eE,if_pos (by omega)]
   simp[e,h]
  ·subst h;simp[eE]
  ·have e:eE x.natAbs y.natAbs=1:=by rw[eE,if_neg (by omega),if_pos (by omega)]
   have:¬x<y:=by omega
   simp[e,h,this]
theorem pF(x:Int):aE ay9 91 [dm x] (.val (.int .i64 x.sign)):=by refine aj Tryz.func91 rfl (by simp) (λC hC=>?_);simp[dm,bW];refine⟨λh=>by simp[h],λ_=>⟨λh=>(Int.sign_eq_neg_one_of_neg h).symm,λh=>(Int.sign_eq_one_of_pos (by omega)).symm⟩⟩
theorem Gr(x:Int):0<(bO 4294967296 x.natAbs).length↔x≠0:=by rw[aAm,ne_eq,bW (by omega)];omega
theorem Aj(x:Int):aE ay9 104 [dm x] (dm (-x)):=by
 refine aj Tryz.func104 rfl (by simp) (λC hC=>?_);simp[dm,Gr];refine⟨λh=>?_,λh=>by omega⟩;by_cases h0:x=0
 ·simp[h0]
 ·have:0<x:=by omega
  simp[h0,this]
end Go.Proofs
namespace Go.Pl
open Go.Sv Go
theorem m8{α:Type}{l:List α}{i:Nat}{x:α}(h:i<l.length):l.getD i x=l[i]:=by simp[h]
theorem vJ{α:Type}{l:List α}{i:Nat}{x:α}(h:l.length<=i):l.getD i x=x:=by simp[h]
def dg(l:List Nat)(i:Nat):Nat:=l.getD i 0
theorem dZ{B:Nat}{l:List Nat}(h:∀d∈l,d<B)(hB:0<B)(i:Nat):dg l i<B:=by
 unfold dg;rcases axT i l.length with h' | h'
 ·rw[m8 h'];exact h _ (List.getElem_mem h')
 ·rw[vJ h'];exact hB
theorem kq{l:List Nat}{i:Nat}(h:l.length<=i):dg l i=0:=by unfold dg;exact vJ h
theorem dH(B:Nat)(l:List Nat)(i:Nat):val B (l.drop i)=dg l i+B*val B (l.drop (i+1)):=by
 unfold dg;rcases axT i l.length with h | h
 ·rw[List.drop_eq_getElem_cons h,m8 h];rfl
 ·rw[aAn h,aAn (by omega),vJ h];simp[val]
theorem l4(B:Nat)(l:List Nat)(i:Nat)(h:i<=l.length):val B (l.take (i+1))=val B (l.take i)+B^i*dg l i:=by
 unfold dg;rcases axT i l.length with h' | h'
 ·rw[aAo h',m8 h',dq];simp[val,aAs h]
 ·have:i=l.length:=by omega
  subst this;rw[vJ (Nat.le_refl _),aAp (by omega),aAp (by omega)];simp
theorem tQ{α:Type}(l:List α):l=[]∨∃zs z,l=zs++[z]:=by
 rcases aAk l with h | ⟨zs,z,h⟩
 ·exact .inl h
 ·exact .inr ⟨zs,z,by rw[h,aAl]⟩
theorem Ac(q:List Nat):q.take (cG q).length=cG q:=by
 induction q with
 | nil=>rfl
 | cons d q ih =>
  simp only[cG];split
  ·split<;>simp_all
  ·rename_i e r h;rw[h]at ih;simp only[awV,List.take_succ_cons]at ih ⊢;rw[ih]
theorem pC{B x:Nat}{l:List Nat}(h:∀d∈l,d<B)(hx:x<B):∀d∈l++[x],d<B:=by
 intro d hd;rcases List.mem_append.1 hd with hd | hd
 ·exact h d hd
 ·simp at hd;omega
theorem RL{B x:Nat}{l:List Nat}(h:∀d∈l,d<B)(hx:x<B):∀d∈x::l,d<B:=by
 intro d hd;rcases List.mem_cons.1 hd with hd | hd
 ·omega
 ·exact h d hd
theorem kW{B x:Nat}{l:List Nat}(i:Nat)(h:∀d∈l,d<B)(hx:x<B):∀d∈l.set i x,d<B:=by
 intro d hd;rcases List.mem_or_eq_of_mem_set hd with hd | hd
 ·exact h d hd
 ·omega
theorem bK{xs:List Nat}{i:Nat}(h:i<xs.length):aM (xs.map u32) i=.val (.int .u32 ((dg xs i:Nat):Int)):=by rw[zH _ _ _ h];simp[dg,h]
theorem dU{xs:List Nat}{i:Nat}(h:i<xs.length):aM (xs.map i64) i=.val (.int .i64 ((dg xs i:Nat):Int)):=by rw[zH _ _ _ h];simp[dg,h]
theorem Km{xs:List Nat}{i:Nat}(h:i<xs.length):aM (xs.map u8) i=.val (.int .u8 ((dg xs i:Nat):Int)):=by rw[zH _ _ _ h];simp[dg,h]
theorem J2(xs:List Nat)(i z:Nat):da (xs.map u8) i (.val (.int .u8 (z:Int)))=(xs.set i z).map u8:=by rw[cq,<-XF,aAq]
theorem my(xs:List Nat)(i z:Nat):da (xs.map u32) i (.val (.int .u32 (z:Int)))=(xs.set i z).map u32:=by rw[cq,<-Lb,aAq]
theorem M4(xs:List Nat)(i z:Nat):da (xs.map i64) i (.val (.int .i64 (z:Int)))=(xs.set i z).map i64:=by rw[cq,<-RB,aAq]
theorem dR{l:List Nat}{i:Nat}(x:Nat)(h:i<l.length):(l.set i x).take (i+1)=l.take i++[x]:=by rw[aAo (by simpa using h)];simp[List.take_set_of_le]
theorem GU(x y:Int)(hx:0<=x∧x<4294967296)(hy:0<=y∧y<4294967296):(((aw3 64 (x*4294967296) ||| aw3 64 y).toNat:Nat):Int)=x*4294967296+y:=by
 obtain⟨a,rfl⟩:∃a:Nat,x=a:=⟨x.toNat,by omega⟩;obtain⟨b,rfl⟩:∃b:Nat,y=b:=⟨y.toNat,by omega⟩;have e1:(aw3 64 ((a:Int)*4294967296)).toNat=2^32*a:=by rw[aAK];simp;omega
 have e2:(aw3 64 (b:Int)).toNat=b:=by rw[aAK];simp;omega
 rw[aAL,e1,e2,<-aAt (by omega)];omega
theorem mX(x y:Int)(hx:0<=x∧x<4294967296)(hy:0<=y∧y<4294967296):wH .or .u64 (x*4294967296) y=x*4294967296+y:=by
 have:=GU x y hx hy;simp only[wH]
 erw [this]
 rw[iQ];omega
theorem Gq(x:Int)(hx:0<=x∧x<=18446744073709551615):wH .and .u64 x 4294967295=x % 4294967296:=by
 obtain⟨a,rfl⟩:∃a:Nat,x=a:=⟨x.toNat,by omega⟩;have e1:(aw3 64 (a:Int)).toNat=a:=by rw[aAK];simp;omega
 have e2:(aw3 64 4294967295).toNat=2^32 - 1:=by decide
 have e3:(aw3 64 (a:Int) &&& aw3 64 4294967295).toNat=a % 4294967296:=by rw[BitVec.toNat_and,e1,e2,Nat.and_two_pow_sub_one_eq_mod]
 simp only[wH]
 erw [e3]
 rw[iQ]<;>omega
theorem dJ(B:Nat)(l:List Nat)(i:Nat):val B (l.take (i+1))=val B (l.take i)+B^i*dg l i:=by
 rcases axT l.length i with h | h
 ·rw[aAp (by omega),aAp (by omega),kq (by omega)];simp
 ·exact l4 B l i h
theorem val_zero(B:Nat):∀(l:List Nat),(∀d∈l,d=0)->val B l=0
 | [],_=>rfl
 | d::l,h=>by simp[val,h d (by simp),val_zero B l λe he=>h e (by simp[he])]
theorem EA(B n:Nat):val B (awQ n 0)=0:=by
 induction n with
 | zero=>rfl
 | succ n ih=>simp[List.replicate_succ,val,ih]
theorem uN(A R:List SV){us:List Nat}{i:Nat}(h:i<us.length):aM (A++(us.map u32++R)) (A.length+i)=.val (.int .u32 ((dg us i:Nat):Int)):=by
 induction A with
 | nil=>simp only[List.nil_append,List.length_nil,Nat.zero_add];rw[Gu (by simpa using h),bK h]
 | cons a A ih =>
  rw[awV,show A.length+1+i=A.length+i+1 by omega];exact ih
theorem vp(A R:List SV){us:List Nat}{i:Nat}(z:Nat)(h:i<us.length):da (A++(us.map u32++R)) (A.length+i) (.val (.int .u32 (z:Int)))=A++((us.set i z).map u32++R):=by rw[cq,List.set_append_right _ _ (by omega),Nat.add_sub_cancel_left,List.set_append_left _ _ (by simpa using h),<-Lb,aAq]
theorem OQ(x y:Int)(hx:0<=x∧x<4294967296)(hy:0<=y∧y<4294967296):wH .or .u64 x (y*4294967296)=x+y*4294967296:=by
 have:=GU y x hy hx;have e:((aw3 64 x ||| aw3 64 (y*4294967296)).toNat:Int)=y*4294967296+x:=by rw[<-this,aAL,aAL,aAu]
 simp only[wH]
 erw [e]
 rw[iQ]<;>omega
theorem IK{b d e Z:Nat}(hb:b<=32)(hd:d<4294967296):(d+4294967296*(e+4294967296*Z)) / 2^b=(d+4294967296*e) / 2^b % 4294967296+4294967296*((e+4294967296*Z) / 2^b):=by
 have hp:0<2^b:=aAv b;have hB:4294967296=2^b*2^(32 - b):=by rw[<-aAw,show b+(32 - b)=32 by omega]
 obtain⟨r,s,he,hr⟩:∃r s,e=r+2^b*s∧r<2^b:=⟨e % 2^b,e / 2^b,(ayW _ _).symm,axH _ hp⟩;have h1:(d+4294967296*r) / 2^b<4294967296:=by rw[aAx hp];have:=ay1 4294967296 (show r+1<=2^b by omega);omega
 have h2:(d+4294967296*e) / 2^b=(d+4294967296*r) / 2^b+4294967296*s:=by rw[he,show d+4294967296*(r+2^b*s)=(d+4294967296*r)+2^b*(4294967296*s) by grind,aAy _ _ hp]
 have h3:(e+4294967296*Z) / 2^b=s+2^(32 - b)*Z:=by rw[he,show r+2^b*s+4294967296*Z=r+2^b*(s+2^(32 - b)*Z) by(conv=>lhs;rhs;lhs;rw[hB]);grind,aAy _ _ hp,aAz hr];omega
 have h4:(d+4294967296*(e+4294967296*Z)) / 2^b=(d+4294967296*r) / 2^b+4294967296*(s+2^(32 - b)*Z):=by
  rw[show d+4294967296*(e+4294967296*Z)=(d+4294967296*r)+2^b*(4294967296*(s+2^(32 - b)*Z)) by rw[he,show r+2^b*s+4294967296*Z=r+2^b*(s+2^(32 - b)*Z) by(conv=>lhs;rhs;lhs;rw[hB]);grind];grind,aAy _ _ hp]
 rw[h4,h2,h3,aAA,aAB h1]
theorem pP{l:List Nat}{i:Nat}(x:Nat)(h:i<l.length)(j:Nat):dg (l.set i x) j=if i=j then x else dg l j:=by unfold dg;simp only[List.getD_eq_getElem?_getD,List.getElem?_set,h];split<;>simp_all
theorem O1(n i:Nat):dg (awQ n 0) i=0:=by unfold dg;rcases axT i n with h | h<;>simp[h]
theorem MI(x y:Int)(a b k:Nat)(hx:x=a)(hy:y=((2^k*b:Nat):Int))(ha:a<2^k)(hs:a+2^k*b<4294967296):wH .or .u32 x y=((a+2^k*b:Nat):Int):=by
 subst hx hy;have e1:(aw3 32 (a:Int)).toNat=a:=by rw[aAK];simp;omega
 have e2:(aw3 32 ((2^k*b:Nat):Int)).toNat=2^k*b:=by rw[aAK];simp only[Nat.reducePow];omega
 have e3:(aw3 32 (a:Int) ||| aw3 32 ((2^k*b:Nat):Int)).toNat=a+2^k*b:=by rw[aAL,e1,e2,aAu,<-aAt ha];omega
 simp only[wH]
 erw [e3]
 rw[Q4]<;>omega
/-! Steps of reckoning by digits. -/
theorem BA{B P vo T a ra bw b rb ay u:Nat}(h:vo+P*(a+B*ra)=T+P*(bw+(b+B*rb)))(e:a+B*ay=u+b+bw) :
  vo+P*u+P*B*ra=T+P*B*(ay+rb):=by grind
theorem L1{B Pi Pj r1 c ro x y d u c' od:Nat}(h:r1+Pi*Pj*c=ro+Pi*(x*od))(e:x*y+d+c=u+B*c') :
  (r1+Pi*Pj*u)+Pi*Pj*B*c'=(ro+Pi*Pj*d)+Pi*(x*(od+Pj*y)):=by grind
theorem fL{l:List Nat}{i:Nat}(x:Nat):(l.set i x).drop (i+1)=l.drop (i+1):=by rw[List.drop_set_of_lt (by omega)]
theorem uS{l l':List Nat}{i:Nat}(h:l.drop i=l'.drop i):dg l i=dg l' i:=by have h1:=dH 0 l i;have h2:=dH 0 l' i;rw[h]at h1;simp at h1 h2;omega
theorem jV{l l':List Nat}{i:Nat}(h:l.drop i=l'.drop i):l.drop (i+1)=l'.drop (i+1):=by have:=congrArg (List.drop 1) h;simpa[List.drop_drop,Nat.add_comm]using this
theorem LQ{B P ud c b vo g vd u u' b' c' v:Nat}(h:ud+P*(c+b)=vo+g*vd)(e:u+B*b'+B*c'=u'+b+(g*v+c)) :
  (ud+P*u)+P*B*(c'+b')=(vo+P*u')+g*(vd+P*v):=by grind
theorem Je{B P lo d rest ab hi q r N:Nat}(h:N=(lo+P*d+P*B*rest)+ab*(P*B*hi))(e:rest*B+d=ab*q+r) :
  N=(lo+P*r)+ab*(P*(q+B*hi)):=by grind
theorem MT{B K v1 v2 V0 top u2 U0 g rest q U V:Nat}(hV:V=(v1*B+v2)*K+V0)(hU:U=(top*B+u2)*K+U0)(a8:U0<K)(hq:q*V<=U)
  (ht:g*v1+rest=top) (a9:rest*B+u2<g*v2):q<g:=by
 rcases axT q g with h | h
 ·exact h
 ·exfalso;have h1:g*V<=U:=ayr (axn V h) hq;have h2:g*((v1*B+v2)*K)<=g*V:=ay1 g (by omega);have h3:top*B+u2+1<=g*(v1*B+v2):=by
   have:g*(v1*B+v2)=g*v1*B+g*v2:=by grind
   rw[this,<-ht,awM];omega
  have h4:=axn K h3;rw[awM,Nat.one_mul,ay0]at h4;omega
theorem Mf{B K v1 v2 V0 top u2 U0 g rest U V:Nat}(hV:V=(v1*B+v2)*K+V0)(hU:U=(top*B+u2)*K+U0)(aK:V0<K)(aL:1<=v1)(hg:g<=B)
  (ht:g*v1+rest=top) (hle:g*v2<=rest*B+u2) (hB:0<B):g*V<U+V:=by
 have h3:g*(v1*B+v2)<=top*B+u2:=by
  have:g*(v1*B+v2)=g*v1*B+g*v2:=by grind
  rw[this,<-ht,awM];omega
 have h4:=axn K h3;have h5:g*V=g*(v1*B+v2)*K+g*V0:=by rw[hV];grind
 have h6:B*K<=V:=by
  have:B*K<=v1*B*K:=axn K (by simpa using axn B aL);have e:(v1*B+v2)*K=v1*B*K+v2*K:=by grind
  omega
 have h7:g*V0<=B*V0:=axn V0 hg;have h8:B*V0<B*K:=aAC aK hB;omega
theorem I7{q g U V:Nat}(hq:U / V=q)(hV:0<V)(h1:q<=g)(h2:g*V<U+V):g=q∨(g=q+1):=by
 have:U<(q+1)*V:=by rw[<-hq];exact Nat.lt_mul_of_div_lt (by omega) hV
 have h3:g*V<(q+2)*V:=by
  have:(q+2)*V=(q+1)*V+V:=by grind
  omega
 have:=Nat.lt_of_mul_lt_mul_right h3;omega
end Go.Pl
namespace Go.Proofs
open Go.Sv Go Go.Pl
def Ul(B n k:Nat)(x:SV):Prop:=∃l:List Nat,x=.ro (l.map u32)∧(∀d∈l,d<B)∧val B l=n∧l.length<=k
theorem S1(a b:List Nat)(ha:∀d∈a,d<4294967296)(hb:∀d∈b,d<4294967296)(az:a.length<=4398046511104)(aB:b.length<=4398046511104) :
  qA ay9 148 [.ro (a.map u32),.ro (b.map u32)] (Ul 4294967296 (val 4294967296 a+val 4294967296 b) (max a.length b.length+1)):=by
 refine aj Tryz.func148 rfl (by simp) (λC hC=>?_);obtain⟨s,hs⟩:∃s,s=val 4294967296 a+val 4294967296 b:=⟨_,rfl⟩;obtain⟨k,hk⟩:∃k,k=max a.length b.length+1:=⟨_,rfl⟩;obtain⟨p,q,hp,hq,aN,ae,ao,ah,aO⟩:∃p q:List Nat,(∀d∈p,d<4294967296)∧(∀d∈q,d<4294967296)∧p.length<=4398046511104∧q.length<=p.length∧val 4294967296 p+val 4294967296 q=s∧p.length+1=k ∧
   (a.length<b.length∧p=b∧q=a∨¬a.length<b.length∧p=a∧q=b):=by
  rcases axT a.length b.length with h | h
  ·exact⟨b,a,hb,ha,aB,by omega,by omega,by omega,.inl ⟨h,rfl,rfl⟩⟩
  ·exact⟨a,b,ha,hb,az,by omega,by omega,by omega,.inr ⟨by omega,rfl,rfl⟩⟩
 rw[<-hs,<-hk];clear hs hk ha hb az aB;rcases aO with⟨h,e1,e2⟩ | ⟨h,e1,e2⟩;all_goals
  subst e1 e2;simp(disch:=omega)[h,aD];refine⟨by omega,?_⟩;refine aa.loop (ι:=List Nat × Nat)
   (λ⟨out,c⟩=>⟨56,[(0,.ro (p.map u32)),(1,.ro (q.map u32)),(5,.view 0 0 out.length),(6,.val (.int .u64 c)),(21,.val (.int .i64 p.length)),(22,.val (.int .i64 out.length))],[some ⟨1,out.map u32,false⟩]⟩)
   (λ⟨out,c⟩=>out.length+1<=k∧c<=1∧(∀d∈out,d<4294967296) ∧
    val 4294967296 out+4294967296^out.length*(c+(val 4294967296 (p.drop out.length)+val 4294967296 (q.drop out.length)))=s)
   (λ⟨out,c⟩=>k - out.length) ([],0) ?_ ?_ ?_
  ·simpa[val]using⟨by omega,ao⟩
  ·simp[aP,hC]
  ·rintro⟨out,c⟩ ⟨h1,h2,h3,h4⟩;have bp:=dZ hp (by omega) out.length;have bq:=dZ hq (by omega) out.length;obtain⟨x,hx⟩:∃x,x=dg p out.length+c+dg q out.length:=⟨_,rfl⟩;have F1:∀d∈out++[x % 4294967296],d<4294967296:=pC h3 (by omega);have F2:val 4294967296 (out++[x % 4294967296])+4294967296^(out.length+1)*(x / 4294967296+(val 4294967296 (p.drop (out.length+1))+val 4294967296 (q.drop (out.length+1))))=s:=by
    rw[<-h4,Av,dH _ p out.length,dH _ q out.length,hx];congr 2;omega
   by_cases aR:out.length<p.length
   ·by_cases ae:out.length<q.length
    ·simp(disch:=omega)[aR,ae,aD,iQ,hC,bK,iY];exact⟨by omega,out++[x % 4294967296],x / 4294967296,⟨by simp;omega,by omega,F1,by simpa using F2⟩,by simp;omega,by subst hx;simp[aP,hC]⟩
    ·have:=kq (l:=q) (i:=out.length) (by omega);rw[this]at hx;simp(disch:=omega)[aR,ae,aD,iQ,hC,bK,iY];exact⟨by omega,out++[x % 4294967296],x / 4294967296,⟨by simp;omega,by omega,F1,by simpa using F2⟩,by simp;omega,by subst hx;simp[aP,hC]⟩
   ·simp(disch:=omega)[aR,Q4,hC];refine⟨by omega,?_⟩;have e1:p.drop out.length=[]:=aAn (by omega);have e2:q.drop out.length=[]:=aAn (by omega);simp only[e1,e2,val]at h4;refine⟨_,?_,out++[c],rfl,?_,?_,?_⟩
    ·simp[aAp]
    ·exact pC h3 (by omega)
    ·rw[dq];simp[val,<-h4]
    ·simp;omega
end Go.Proofs
namespace Go.Proofs
open Go.Sv Go Go.Pl
theorem F3(p q:List Nat)(hp:∀d∈p,d<4294967296)(hq:∀d∈q,d<4294967296)(aN:p.length<=4398046511104)(ae:q.length<=p.length)(T:Nat)(hT:val 4294967296 p=T+val 4294967296 q) :
  qA ay9 150 [.ro (p.map u32),.ro (q.map u32)] (Ul 4294967296 T p.length):=by
 refine aj Tryz.func150 rfl (by simp) (λC hC=>?_);simp(disch:=omega)[];refine⟨by omega,?_⟩;refine aa.loop (ι:=List Nat × Nat × Nat)
  (λ⟨o,i,c⟩=>⟨44,[(0,.ro (p.map u32)),(1,.ro (q.map u32)),(5,.view 0 0 p.length),(6,.val (.int .u64 c)),(13,.val (.int .i64 p.length)),(14,.val (.int .i64 i))],[some ⟨1,o.map u32,false⟩]⟩)
  (λ⟨o,i,c⟩=>o.length=p.length∧i<=p.length∧c<=1∧(∀d∈o,d<4294967296) ∧
   val 4294967296 (o.take i)+4294967296^i*val 4294967296 (p.drop i)=T+4294967296^i*(c+val 4294967296 (q.drop i)))
  (λ⟨o,i,c⟩=>p.length - i) (awQ p.length 0,0,0) ?_ ?_ ?_
 ·simp[val,hT]
 ·simp[aP,hC]
 ·rintro⟨o,i,c⟩ ⟨h1,h2,h3,h4,h5⟩;have bp:=dZ hp (by omega) i;have bq:=dZ hq (by omega) i;by_cases aR:i<p.length
  ·have key:∀u c',dg p i+4294967296*c'=u+dg q i+c->val 4294967296 ((o.set i u).take (i+1))+4294967296^(i+1)*val 4294967296 (p.drop (i+1))=T+4294967296^(i+1)*(c'+val 4294967296 (q.drop (i+1))):=by
    intro u c' e;rw[dR _ (by omega),dq,aAc,aAs (by omega),ayX];rw[dH _ p i,dH _ q i]at h5;simpa[val]using BA h5 e
   obtain⟨u,c',hu,ap,e0,e1,e2⟩:∃u c':Nat,u<4294967296∧c'<=1∧dg p i+4294967296*c'=u+dg q i+c∧((dg p i:Int) - c - dg q i) % 18446744073709551616 / 9223372036854775808=c'∧((dg p i:Int) - c - dg q i) % 4294967296=u:=by
    rcases axT (dg p i) (dg q i+c)with h | h
    ·exact⟨dg p i+4294967296 - dg q i - c,1,by omega,by omega,by omega,by omega,by omega⟩
    ·exact⟨dg p i - dg q i - c,0,by omega,by omega,by omega,by omega,by omega⟩
   have F:=kW i h4 hu;by_cases ae:i<q.length
   ·simp(disch:=omega)[aR,ae,aD,bK,iY,HC,e1,e2];exact⟨by omega,o.set i u,i+1,c',⟨by simpa using h1,by omega,by omega,F,key u c' e0⟩,by omega,by simp[aP,hC,my]⟩
   ·have:=kq (l:=q) (i:=i) (by omega);rw[this]at e1 e2;simp at e1 e2;simp(disch:=omega)[aR,ae,aD,bK,iY,HC,e1,e2];exact⟨by omega,o.set i u,i+1,c',⟨by simpa using h1,by omega,by omega,F,key u c' e0⟩,by omega,by simp[aP,hC,my]⟩
  ·have hi:i=p.length:=by omega
   subst hi;simp(disch:=omega)[];have e1:p.drop p.length=[]:=aAn (by omega);have e2:q.drop p.length=[]:=aAn (by omega);have e3:o.take p.length=o:=aAp (by omega);have h6:=mz o h4;rw[e1,e2,e3]at h5;rw[h1]at h6;have h7:val 4294967296 o=T:=by
    rcases Nat.le_one_iff_eq_zero_or_eq_one.1 h3 with rfl | rfl
    ·simpa[val]using h5
    ·simp[val]at h5;omega
   exact⟨_,by simp[aAp,h1],o,rfl,h4,h7,by omega⟩
end Go.Proofs
namespace Go.Proofs
open Go.Sv Go Go.Pl
def fit(x:Int):Prop:=wid 4294967296 x.natAbs<=1000000000000
theorem uc(x y:Int)(hm:fit x)(hn:fit y) :
  aE ay9 107 [dm x,dm y] (dm (x+y)):=by
 refine aj Tryz.func107 rfl (by simp) (λC hC=>?_);have B2:2<=4294967296:=by omega
 have vx:=cB B2 x.natAbs;have vy:=cB B2 y.natAbs;have lx:=cX B2 x.natAbs;have ly:=cX B2 y.natAbs;have aQ:=hm;have aS:=hn;simp only[fit,wid]at aQ aS;by_cases hs:(x<0↔y<0)
 ·simp[dm,hs];refine aa.awH (.qs [0,1,2,3,4,5]<|.l 6 []<|.l 7 []<|.l 8 [2]<|.nil) ?_;simp;refine yk (S1 _ _ lx ly (by omega) (by omega)) (by simp) ?_;rintro _ ⟨l,rfl,h1,h2,h3⟩;simp;have e:(if decide (y<0)=true then -(val 4294967296 l:Int) else(val 4294967296 l:Int))=x+y:=by
   rw[h2,vx,vy];split<;>simp_all<;>omega
  have ac:=lz (decide (y<0)) l (by omega) h1;rw[e]at ac;refine bz ac (by simp) ?_;simp[dm]
 ·have hc:=tE _ _ (show wid 4294967296 x.natAbs<=4398046511104 by simp only[wid];omega) (show wid 4294967296 y.natAbs<=4398046511104 by simp only[wid];omega);have hle:∀{m n:Nat},m<=n->(bO 4294967296 m).length<=(bO 4294967296 n).length:=λh=>cH B2 h;rcases axT x.natAbs y.natAbs with h | h
  ·have e0:eE x.natAbs y.natAbs = -1:=by simp[eE,h]
   rw[e0]at hc;have aq:=F3 _ _ ly lx (by omega) (hle (by omega)) (y.natAbs - x.natAbs) (by rw[vx,vy];omega);simp[dm,hs];refine bz hc (by simp) ?_;simp;refine aa.awH (.qs [0,1,2,3,4,5]<|.l 6 []<|.l 7 []<|.l 8 [2]<|.nil) ?_;simp;refine yk aq (by simp) ?_;rintro _ ⟨l,rfl,h1,h2,h3⟩;simp;have e:(if decide (y<0)=true then -(val 4294967296 l:Int) else(val 4294967296 l:Int))=x+y:=by rw[h2];split<;>simp_all<;>omega
   have ac:=lz (decide (y<0)) l (by omega) h1;rw[e]at ac;refine bz ac (by simp) ?_;simp[dm]
  ·have e0:eE x.natAbs y.natAbs=if y.natAbs<x.natAbs then 1 else 0:=by simp[eE];omega
   rw[e0]at hc;have aq:=F3 _ _ lx ly (by omega) (hle (by omega)) (x.natAbs - y.natAbs) (by rw[vx,vy];omega);simp[dm,hs];refine bz hc (by simp) ?_;have e1:¬(if y.natAbs<x.natAbs then(1:Int) else 0)<0:=by split<;>omega
   simp[e1];refine aa.awH (.qs [0,1,2,3,4,5]<|.l 6 []<|.l 7 []<|.l 8 [2]<|.nil) ?_;simp;refine yk aq (by simp) ?_;rintro _ ⟨l,rfl,h1,h2,h3⟩;simp;have e:(if decide (x<0)=true then -(val 4294967296 l:Int) else(val 4294967296 l:Int))=x+y:=by rw[h2];split<;>simp_all<;>omega
   have ac:=lz (decide (x<0)) l (by omega) h1;rw[e]at ac;refine bz ac (by simp) ?_;simp[dm]
theorem zp{x:Int}:fit (-x)↔fit x:=by simp[fit]
theorem N2(x y:Int)(hm:fit x)(hn:fit y) :
  aE ay9 135 [dm x,dm y] (dm (x - y)):=by
 refine aj Tryz.func135 rfl (by simp) (λC hC=>?_);simp;refine aa.awH (.qs [0,1]<|.l 2 []<|.l 3 []<|.l 4 [2]<|.nil) ?_;simp;refine bz (Aj y) (by simp) ?_;simp;refine bz (uc x (-y) hm (zp.2 hn)) (by simp) ?_;simp[Int.sub_eq_add_neg]
end Go.Proofs
namespace Go.Proofs
open Go.Sv Go Go.Pl
theorem JO(x y:Int):(if(decide (x<0) != decide (y<0))=true then -((x.natAbs*y.natAbs:Nat):Int) else((x.natAbs*y.natAbs:Nat):Int))=x*y:=by
 rw[aAG];by_cases h1:x<0<;>by_cases h2:y<0
 ·have e1:(x.natAbs:Int) = -x:=by omega
  have e2:(y.natAbs:Int) = -y:=by omega
  simp[h1,h2,e1,e2,aAH,aAI]
 ·have e1:(x.natAbs:Int) = -x:=by omega
  have e2:(y.natAbs:Int)=y:=by omega
  simp[h1,h2,e1,e2,aAH]
 ·have e1:(x.natAbs:Int)=x:=by omega
  have e2:(y.natAbs:Int) = -y:=by omega
  simp[h1,h2,e1,e2,aAI]
 ·have e1:(x.natAbs:Int)=x:=by omega
  have e2:(y.natAbs:Int)=y:=by omega
  simp[h1,h2,e1,e2]
theorem jI(x y:Int)(hm:fit x)(hn:fit y) :
  aE ay9 93 [dm x,dm y] (dm (x*y)):=by
 refine aj Tryz.func93 rfl (by simp) (λC hC=>?_);have B2:2<=4294967296:=by omega
 have vx:=cB B2 x.natAbs;have vy:=cB B2 y.natAbs;have lx:=cX B2 x.natAbs;have ly:=cX B2 y.natAbs;have aT:(if(decide (x<0) != decide (y<0))=true then -((x.natAbs*y.natAbs:Nat):Int) else((x.natAbs*y.natAbs:Nat):Int))=x*y:=JO x y;simp only[fit,wid]at hm hn;simp[dm];generalize bO 4294967296 x.natAbs=a at *;generalize bO 4294967296 y.natAbs=b at *;simp(disch:=omega)[aD];refine⟨by omega,?_⟩;refine aa.loop (ι:=List Nat × Nat)
  (λ⟨o,i⟩=>⟨78,[(2,.ptr 0 0 0),(3,.ptr 1 0 0),(4,.ptr 2 0 0),(5,.view 3 0 (a.length+b.length)),(21,.ro (a.map u32)),(22,.val (.int .i64 a.length)),(23,.val (.int .i64 i))],
   [some ⟨2,[.agg [.val (.bool (decide (x<0))),.ro (a.map u32)]],false⟩,some ⟨2,[.agg [.val (.bool (decide (y<0))),.ro (b.map u32)]],false⟩,some ⟨2,[.agg [.val (.bool false),.val (.slice none 0 0)]],false⟩,some ⟨1,o.map u32,false⟩]⟩)
  (λ⟨o,i⟩=>o.length=a.length+b.length∧i<=a.length∧(∀d∈o,d<4294967296)∧val 4294967296 (o.take (i+b.length))=val 4294967296 (a.take i)*val 4294967296 b)
  (λ⟨o,i⟩=>a.length - i) (awQ (a.length+b.length) 0,0) ?_ ?_ ?_
 ·refine⟨by simp,by omega,by simp,?_⟩;simp[EA];simp[val]
 ·simp[aP,hC]
 ·rintro⟨o,i⟩ ⟨h1,h2,h3,h4⟩;by_cases aR:i<a.length
  ·simp(disch:=omega)[aR,bK];have bx:=dZ lx (by omega) i;refine aa.loop (ι:=List Nat × Nat × Nat)
    (λ⟨o',j,c⟩=>⟨78,[(2,.ptr 0 0 0),(3,.ptr 1 0 0),(4,.ptr 2 0 0),(5,.view 3 0 (a.length+b.length)),(6,.val (.int .i64 i)),(7,.val (.int .u32 (dg a i))),(8,.val (.int .u64 c)),(21,.ro (a.map u32)),(22,.val (.int .i64 a.length)),(23,.val (.int .i64 i)),
      (29,.ro (b.map u32)),(30,.val (.int .i64 b.length)),(31,.val (.int .i64 j))],
     [some ⟨2,[.agg [.val (.bool (decide (x<0))),.ro (a.map u32)]],false⟩,some ⟨2,[.agg [.val (.bool (decide (y<0))),.ro (b.map u32)]],false⟩,some ⟨2,[.agg [.val (.bool false),.val (.slice none 0 0)]],false⟩,some ⟨1,o'.map u32,false⟩]⟩)
    (λ⟨o',j,c⟩=>o'.length=a.length+b.length∧j<=b.length∧c<4294967296∧(∀d∈o',d<4294967296)∧o'.drop (i+j)=o.drop (i+j) ∧
     val 4294967296 (o'.take (i+j))+4294967296^i*4294967296^j*c=val 4294967296 (o.take (i+j))+4294967296^i*(dg a i*val 4294967296 (b.take j)))
    (λ⟨o',j,c⟩=>b.length - j) (o,0,0) ?_ ?_ ?_
   ·exact⟨h1,by omega,by omega,h3,rfl,by simp[val]⟩
   ·simp[aP,hC]
   ·rintro⟨o',j,c⟩ ⟨g1,g2,g3,g4,g5,g6⟩;by_cases aU:j<b.length
    ·have bo:=dZ g4 (by omega) (i+j);have by_:=dZ ly (by omega) j;obtain⟨t,ht⟩:∃t,t=dg a i*dg b j+dg o' (i+j)+c:=⟨_,rfl⟩;have ba:dg a i*dg b j<=4294967295*4294967295:=aAD (by omega) (by omega);have aV:(dg a i:Int)*dg b j<=18446744065119617025:=by rw[<-aAG];omega
     have aY:(0:Int)<=(dg a i:Int)*dg b j:=by rw[<-aAG];omega
     have F:=kW (i+j) g4 (axH t (show 0<4294967296 by omega));have K:val 4294967296 ((o'.set (i+j) (t % 4294967296)).take (i+(j+1)))+4294967296^i*4294967296^(j+1)*(t / 4294967296)=val 4294967296 (o.take (i+(j+1)))+4294967296^i*(dg a i*val 4294967296 (b.take (j+1))):=by rw[<-axp,dR _ (by omega),dq,aAc,aAs (by omega),l4 _ o _ (by omega),l4 _ b _ (by omega)];simp only[val,aAE,axU,ayX,aAw];rw[uS g5]at ht;have e:=ayW t 4294967296;have:=L1 g6 (show dg a i*dg b j+dg o (i+j)+c=t % 4294967296+4294967296*(t / 4294967296) by omega);simpa[ay0]using this
     simp(disch:=omega)[aU,aD,bK,iY,iQ];refine⟨by omega,by omega,by omega,by omega,o'.set (i+j) (t % 4294967296),j+1,t / 4294967296,⟨by simpa using g1,by omega,by omega,F,?_,K⟩,by omega,?_⟩
     ·rw[<-axp,fL];exact jV g5
     ·subst ht;simp[aP,hC,cq]
    ·obtain rfl:j=b.length:=by omega
     simp(disch:=omega)[aD,bK,iY];have e:(c:Int) % 4294967296=c:=by omega
     have tb:b.take b.length=b:=aAr;refine⟨by omega,by omega,o'.set (i+b.length) c,i+1,⟨by simpa using g1,by omega,kW _ g4 g3,?_⟩,by omega,by simp[aP,hC,cq,e]⟩;rw[show i+1+b.length=i+b.length+1 by omega,dR _ (by omega),dq,aAc,aAs (by omega),l4 _ a _ (by omega),aAw];rw[tb,h4]at g6;simp only[val,aAE,axU];rw[g6];grind
  ·obtain rfl:i=a.length:=by omega
   simp(disch:=omega)[];have e1:a.take a.length=a:=aAr;have e2:o.take (a.length+b.length)=o:=aAp (by omega);rw[e1,e2,vx,vy]at h4;have ac:=lz (decide (x<0) != decide (y<0)) o (by omega) h3;rw[h4,aT]at ac;refine bz ac (by simp[aAp,h1,bne]) ?_;simp[dm]
end Go.Proofs
namespace Go.Proofs
open Go.Sv Go Go.Pl
theorem KY(m:List Nat)(hm:∀d∈m,d<4294967296)(hl:m.length<=2) :
  aE ay9 187 [.ro (m.map u32)] (.val (.int .u64 (val 4294967296 m))):=by
 refine aj Tryz.func187 rfl (by simp) (λC hC=>?_);simp(disch:=omega)[aD];refine aa.loop (ι:=Nat)
  (λi=>⟨21,[(0,.ro (m.map u32)),(3,.val (.int .u64 (val 4294967296 (m.drop i)))),(4,.val (.int .i64 ((i:Int) - 1)))],[]⟩)
  (λi=>i<=m.length)
  (λi=>i) m.length ?_ ?_ ?_
 ·simp
 ·simp[aP,hC,val]
 ·rintro i hi;cases i with
  | zero=>simp
  | succ i =>
   have hv:=mz (m.drop (i+1)) (λd hd=>hm d (List.mem_of_mem_drop hd));have hlen:(m.drop (i+1)).length<=1:=by simp;omega
   have bb:val 4294967296 (m.drop (i+1))<4294967296:=Nat.lt_of_lt_of_le hv (ay2 (by omega) hlen);have bd:=dZ hm (by omega) i;simp(disch:=omega)[aD,iQ,bK,mX];refine⟨by omega,i,by omega,by omega,?_⟩;have:=dH 4294967296 m i;simp[aP,hC,this];omega
end Go.Proofs
namespace Go.Proofs
open Go.Sv Go Go.Pl
theorem MQ{C:Ctx}{M:aC}{k:Nat}{W:Option (List Nat)}{K:aC->List Nat->SV->Prop}(l:List Nat)(r:List SV)(hk:aA M k=some ⟨1,l.map u32++r,false⟩)(hl:l.length<=4398046511104)
  (hW:∀ks,W=some ks->∀i e,aA M i=some e->i∈ks) (hK:K M [] (.view k 0 (cG l).length)):dK ay9 C 147 [.view k 0 l.length] M W K:=by
 refine ep aAj rfl (by simp) [] (by simp) (λks h=>⟨rfl,hW ks h⟩) (λC' hC=>?_);simp;refine aa.loop (ι:=List Nat) (λl'=>⟨21,[(0,.view k 0 l'.length)],M⟩) (λl'=>l' <+: l∧cG l'=cG l) (λl=>l.length) l ?_ ?_ ?_
 ·simp
 ·simp[aP]
 ·rintro l' ⟨hp,ht⟩;obtain⟨t,rfl⟩:=hp;rcases tQ l' with rfl | ⟨zs,z,rfl⟩
  ·rw[<-ht]at hK;simpa[cG]using hK
  ·simp at hl;rw[<-ht]at hK;simp(disch:=omega)[aD,hk];refine⟨by omega,λhz=>⟨by omega,zs,⟨⟨z::t,by simp⟩,?_⟩,by omega,by simp[aP]⟩,λhz=>?_⟩
   ·rw[hz,lV]at ht;rw[ht,hz];simp
   ·rw[pT _ hz]at hK;simpa using hK
theorem AO{C:Ctx}{M:aC}{k:Nat}{W:Option (List Nat)}{K:aC->List Nat->SV->Prop}(l:List Nat)(r:List SV)(ab:Nat)(hk:aA M k=some ⟨1,l.map u32++r,false⟩)(hl:l.length<=4398046511104)
  (hd:∀d∈l,d<4294967296) (hb:0<ab∧ab<4294967296)
  (hW:∀ks,W=some ks->∀i e,aA M i=some e->i∈ks)
  (hK:∀q,(∀d∈q,d<4294967296)->q.length=l.length->val 4294967296 q=val 4294967296 l / ab->K (aX M k (some ⟨1,q.map u32++r,false⟩)) [] (.bM [.view k 0 (cG q).length,.val (.int .u32 ((val 4294967296 l % ab:Nat):Int))])) :
  dK ay9 C 106 [.view k 0 l.length,.val (.int .u32 ab)] M W K:=by
 refine ep Tryz.func106 rfl (by simp) [] (by simp) (λks h=>⟨rfl,hW ks h⟩) (λC' hC=>?_);simp(disch:=omega)[aD];refine aa.loop (ι:=List Nat × Nat × List Nat × Nat) (λ⟨lo,i,hi,rest⟩=>⟨40,[(0,.view k 0 l.length),(1,.val (.int .u32 ab)),(6,.val (.int .u64 rest)),(7,.val (.int .i64 ((i:Int) - 1)))],aX M k (some ⟨1,(lo++hi).map u32++r,false⟩)⟩)
  (λ⟨lo,i,hi,rest⟩=>lo.length=i∧i+hi.length=l.length∧(∀d∈lo,d<4294967296)∧(∀d∈hi,d<4294967296)∧rest<ab∧val 4294967296 l=(val 4294967296 lo+4294967296^i*rest)+ab*(4294967296^i*val 4294967296 hi))
  (λ⟨lo,i,hi,rest⟩=>i) (l,l.length,[],0) ?_ ?_ ?_
 ·simpa[val]using⟨hd,hb.1⟩
 ·simp[aP,ot hk]
 ·rintro⟨lo,i,hi,rest⟩ ⟨h1,h2,h3,h4,h5,h6⟩;cases i with
  | zero =>
   have aZ:=List.length_eq_zero_iff.1 h1;subst aZ;simp[val]at h6;have hq:val 4294967296 hi=val 4294967296 l / ab:=by rw[h6,aAy _ _ hb.1,aAz h5];omega
   have hr:rest=val 4294967296 l % ab:=by rw[h6,aAA,aAB h5]
   have aF:hi.length=l.length:=by omega
   simp;rw[<-aF];refine MQ hi r (iM _ hk) (by omega) (by simp) ?_;have e:(rest:Int) % 4294967296=rest:=by omega
   simp[iY,e];have:=hK hi h4 aF hq;rw[hr];simpa using this
  | succ i =>
   rcases tQ lo with rfl | ⟨lo,x,rfl⟩
   ·simp at h1
   ·simp at h1;subst h1;have hx:=h3 x (by simp);obtain⟨X,hX⟩:∃X,X=rest*4294967296+x:=⟨_,rfl⟩;have hq:X / ab<4294967296:=by
     rw[aAx hb.1,hX,Nat.mul_comm];have:(rest+1)*4294967296<=ab*4294967296:=axn _ h5;omega
    have e1:((rest:Int)*4294967296+x) / ab=((X / ab:Nat):Int):=by rw[hX];simp
    have e2:((rest:Int)*4294967296+x) % ab=((X % ab:Nat):Int):=by rw[hX];simp
    have hr:X % ab<ab:=axH _ hb.1;have e0:rest*4294967296+x=ab*(X / ab)+X % ab:=by rw[<-hX];exact(Nat.div_add_mod X ab).symm
    generalize X / ab=q at *;generalize X % ab=rr at *;simp(disch:=omega)[aD,iQ,iM _ hk,mX,iY,Int.tdiv_eq_ediv_of_nonneg,Int.tmod_eq_emod_of_nonneg,e1,e2];have e3:(q:Int) % 4294967296=q:=by omega
    refine⟨by omega,by omega,by omega,by omega,lo,lo.length,q::hi,rr,⟨rfl,by simp;omega,λd hd=>h3 d (by simp[hd]),RL h4 hq,hr,?_⟩,by omega,by simp[aP,e3]⟩;rw[dq,ayX]at h6;simp only[val,aAE,axU]at h6;exact Je h6 e0
end Go.Proofs
namespace Go.Proofs
open Go.Sv Go Go.Pl
theorem CM{C:Ctx}{M:aC}{K:aC->List Nat->SV->Prop}(m:List Nat)(b s:Nat){s':Int}(ao:s'=s)(hm:∀d∈m,d<4294967296)(hb:b<32)(hl:m.length<=s)(hs:s<=4398046511104)(hv:val 4294967296 m*2^b<4294967296^s)
  (hK:∀o,o.length=s->(∀d∈o,d<4294967296)->val 4294967296 o=val 4294967296 m*2^b->K (M++[some ⟨1,o.map u32,false⟩]) [] (.view M.length 0 s)) :
  dK ay9 C 188 [.ro (m.map u32),.val (.int .u64 b),.val (.int .i64 s')] M none K:=by
 subst ao;refine ep Tryz.func188 rfl (by simp) [] (by simp) (by simp) (λC' hC=>?_);simp(disch:=omega)[];refine⟨by omega,?_⟩;refine aa.loop (ι:=List Nat × Nat) (λ⟨o,i⟩=>⟨44,[(0,.ro (m.map u32)),(1,.val (.int .u64 b)),(7,.view M.length 0 s),(13,.ro (m.map u32)),(14,.val (.int .i64 m.length)),(15,.val (.int .i64 i))],M++[some ⟨1,o.map u32,false⟩]⟩)
  (λ⟨o,i⟩=>o.length=s∧i<=m.length∧(∀d∈o,d<4294967296)∧val 4294967296 (o.take (i+1))=val 4294967296 (m.take i)*2^b∧dg o i<2^b∧∀j,i<j->dg o j=0)
  (λ⟨o,i⟩=>m.length - i) (awQ s 0,0) ?_ ?_ ?_
 ·refine⟨by simp,by omega,by simp,by simp[EA];simp[val],?_,λj _=>O1 _ _⟩;rw[O1];exact aAv b
 ·simp[aP,hC]
 ·rintro⟨o,i⟩ ⟨h1,h2,h3,h4,h5,h6⟩;by_cases aR:i<m.length
  ·have bm:=dZ hm (by omega) i;have bo:=dZ h3 (by omega) i;have hp:(2:Nat)^b<=2147483648:=ay2 (by omega) (show b<=31 by omega);obtain⟨z,hz⟩:∃z,z=dg m i % 2^(32 - b):=⟨_,rfl⟩;obtain⟨w,hw⟩:∃w,w=2^b*dg m i:=⟨_,rfl⟩;have hB:4294967296=2^b*2^(32 - b):=by rw[<-aAw,show b+(32 - b)=32 by omega]
   have aG:w % 4294967296=2^b*z:=by
    rw[hw,hz];conv=>lhs;rhs;rw[hB]
    exact Nat.mul_mod_mul_left _ _ _
   have ar:z+1<=2^(32 - b):=by rw[hz];exact axH _ (aAv _)
   have al:dg o i+2^b*z<4294967296:=by have:=ay1 (2^b) ar;rw[<-hB,Nat.mul_add,Nat.mul_one]at this;omega
   have a0:w / 4294967296<2^b:=by rw[aAx (by omega),hw];exact aAC bm (aAv b)
   have a1:w<18446744073709551616:=by
    have:w<=2147483648*4294967295:=by rw[hw];exact aAD hp (by omega)
    omega
   have e1:ay4.wrap ((dg m i:Int)*2^b)=w:=by
    have:(dg m i:Int)*2^b=w:=by rw[hw];push_cast;exact aAJ _ _
    rw[this,iQ];omega
   have e2:wH .or .u32 (dg o i:Int) ((w:Int) % 4294967296)=((dg o i+2^b*z:Nat):Int):=MI _ _ _ _ b rfl (by rw[<-aG];rfl) h5 al
   -- what a step brings
   have af:val 4294967296 ((o.set i (dg o i+2^b*z)).take (i+1))+4294967296^(i+1)*(w / 4294967296)=val 4294967296 (m.take (i+1))*2^b:=by rw[dR _ (by omega),dq,aAc,aAs (by omega),l4 _ m _ h2];rw[l4 _ o i (by omega)]at h4;have:=ayW w 4294967296;rw[aG]at this;simp only[val,aAE,axU,ayX];grind
   have e3:(w:Int) / 4294967296=((w / 4294967296:Nat):Int):=by simp
   generalize w / 4294967296=h at *;generalize dg o i+2^b*z=y at *;have e4:(h:Int) % 4294967296=h:=by omega
   have F:=kW i h3 al;by_cases hh:0<h
   ·have bc:i+1<s:=by
     rcases axT (i+1) s with h | h
     ·exact h
     ·exfalso;have:s=i+1:=by omega
      subst this;have h7:val 4294967296 (m.take (i+1))=val 4294967296 m:=by rw[aAp (by omega)]
      rw[h7]at af;have:=ay1 (4294967296^(i+1)) hh;omega
    have an:i+1<(o.set i y).length:=by simp;omega
    simp(disch:=omega)[aD,bK,aR,iQ,iY,e1,e2,e3,e4,my, -aAq,hh];refine⟨by omega,by omega,by omega,by omega,by omega,by omega,(o.set i y).set (i+1) h,i+1,⟨by simpa using h1,by omega,kW _ F (by omega),?_,?_,?_⟩,by omega,?_⟩
    ·rw[dR _ an,dq,aAc,aAs (Nat.le_of_lt an)];simpa[val]using af
    ·rw[pP _ an,if_pos rfl];exact a0
    ·intro j hj;rw[pP _ an,if_neg (by omega),pP _ (by omega),if_neg (by omega)];exact h6 j (by omega)
    ·simp[aP,hC]
   ·obtain rfl:h=0:=by omega
    simp(disch:=omega)[aD,bK,aR,iQ,iY,e1,e2,e3,my, -aAq];refine⟨by omega,by omega,by omega,by omega,o.set i y,i+1,⟨by simpa using h1,by omega,F,?_,?_,?_⟩,by omega,?_⟩
    ·rw[l4 _ _ _ (by simp;omega),pP _ (by omega),if_neg (by omega),h6 _ (by omega)];simpa using af
    ·rw[pP _ (by omega),if_neg (by omega),h6 _ (by omega)];exact aAv b
    ·intro j hj;rw[pP _ (by omega),if_neg (by omega)];exact h6 j (by omega)
    ·simp[aP,hC]
  ·obtain rfl:i=m.length:=by omega
   simp(disch:=omega)[];have e5:m.take m.length=m:=aAr;rw[e5]at h4;have e6:val 4294967296 (o.take (m.length+1))=val 4294967296 o:=by
    rcases axT m.length s with h | h
    ·rw[<-List.take_append_drop (m.length+1) o,dq];have:val 4294967296 (o.drop (m.length+1))=0:=by
      refine val_zero _ _ λd hd=>?_;obtain⟨j,hj,rfl⟩:=List.getElem_of_mem hd;have:=h6 (m.length+1+j) (by omega);simp only[List.length_drop]at hj;unfold dg at this;rw[m8 (by omega)]at this;rw[List.getElem_drop];exact this
     rw[this];simp
    ·rw[aAp (by omega)]
   exact hK o h1 h3 (by omega)
end Go.Proofs
namespace Go.Proofs
open Go.Sv Go Go.Pl
theorem B8{C:Ctx}{M:aC}{k k2 i0 nu nv:Nat}{K:aC->List Nat->SV->Prop}(A R:List SV)(us vs:List Nat)(g:Nat)(hk:aA M k=some ⟨1,A++(us.map u32++R),false⟩)(au:aA M k2=some ⟨1,vs.map u32,false⟩)(ak:k2≠k)(hi:i0=A.length)(av:nu=us.length)(aw:nv=vs.length)
  (hu:∀d∈us,d<4294967296) (hv:∀d∈vs,d<4294967296) (hg:g<4294967296) (hl:vs.length<us.length) (hs:us.length<=4398046511104)
  (hK:∀o b,o.length=us.length->(∀d∈o,d<4294967296)->b<=1->val 4294967296 us+4294967296^us.length*b=val 4294967296 o+g*val 4294967296 vs->K (aX M k (some ⟨1,A++(o.map u32++R),false⟩)) [] (.val (.bool (decide (0<b))))) :
  dK ay9 C 189 [.view k i0 nu,.view k2 0 nv,.val (.int .u64 g)] M none K:=by
 subst hi av aw;refine ep Tryz.func189 rfl (by simp) [] (by simp) (by simp) (λC' hC=>?_);simp(disch:=omega)[];refine aa.loop (ι:=List Nat × Nat × Nat × Nat) (λ⟨o,i,c,b⟩=>⟨51,[(0,.view k A.length us.length),(1,.view k2 0 vs.length),(2,.val (.int .u64 g)),(7,.val (.int .u64 c)),(8,.val (.int .u64 b)),(12,.val (.int .i64 us.length)),(13,.val (.int .i64 i))],aX M k (some ⟨1,A++(o.map u32++R),false⟩)⟩)
  (λ⟨o,i,c,b⟩=>o.length=us.length∧i<=us.length∧(∀d∈o,d<4294967296)∧c<4294967296∧b<=1∧(vs.length<i->c=0)∧o.drop i=us.drop i ∧
   val 4294967296 (us.take i)+4294967296^i*(c+b)=val 4294967296 (o.take i)+g*val 4294967296 (vs.take i))
  (λ⟨o,i,c,b⟩=>us.length - i) (us,0,0,0) ?_ ?_ ?_
 ·exact⟨rfl,by omega,hu,by omega,by omega,λ_=>rfl,rfl,by simp[val]⟩
 ·simp[aP,hC,ot hk]
 ·rintro⟨o,i,c,b⟩ ⟨h1,h2,h3,h4,h5,h6,h7,h8⟩;have ah:=iM (M:=M) (k:=k) ⟨1,A++(o.map u32++R),false⟩ hk;have ad:aA (aX M k (some ⟨1,A++(o.map u32++R),false⟩)) k2=some ⟨1,vs.map u32,false⟩:=by rw[zN _ hk ak];exact au
  by_cases aR:i<us.length
  ·have bo:=dZ h3 (by omega) i;have bv:=dZ hv (by omega) i;have ho:dg o i=dg us i:=uS h7;obtain⟨t,ht⟩:∃t,t=c+g*dg vs i:=⟨_,rfl⟩;have be:g*dg vs i<=4294967295*4294967295:=aAD (by omega) (by omega);have a2:(g:Int)*dg vs i<=18446744065119617025:=by rw[<-aAG];omega
   have a3:(0:Int)<=(g:Int)*dg vs i:=by rw[<-aAG];omega
   have e1:(c:Int)+g*dg vs i=t:=by rw[ht];push_cast;rfl
   obtain⟨c',ap⟩:∃c',c'=t / 4294967296:=⟨_,rfl⟩;obtain⟨lo,a4⟩:∃lo,lo=t % 4294967296:=⟨_,rfl⟩;have e2:(t:Int) % 4294967296=lo:=by omega
   have e3:(t:Int) / 4294967296=c':=by omega
   obtain⟨u,b',a5,aH,e0,e4,e5⟩:∃u b':Nat,u<4294967296∧b'<=1∧dg o i+4294967296*b'=u+lo+b∧((dg o i:Int) - lo - b) % 18446744073709551616 / 9223372036854775808=b'∧((dg o i:Int) - lo - b) % 4294967296=u:=by
    rcases axT (dg o i) (lo+b)with h | h
    ·exact⟨dg o i+4294967296 - lo - b,1,by omega,by omega,by omega,by omega,by omega⟩
    ·exact⟨dg o i - lo - b,0,by omega,by omega,by omega,by omega,by omega⟩
   have aI:vs.length<i+1->c'=0:=by intro h;rw[kq (by omega)]at ht;rw[ap,ht];simp;omega
   have F:=kW i h3 a5;have G:val 4294967296 (us.take (i+1))+4294967296^(i+1)*(c'+b')=val 4294967296 ((o.set i u).take (i+1))+g*val 4294967296 (vs.take (i+1)):=by rw[dJ,dJ _ vs,dR _ (by omega),dq,aAc,aAs (by omega),ayX];simp only[val,aAE,axU];exact LQ h8 (by rw[<-ho];omega)
   have D:(o.set i u).drop (i+1)=us.drop (i+1):=by rw[fL];exact jV h7
   have am:lo<4294967296:=by omega
   by_cases ai:i<vs.length
   ·simp(disch:=omega)[aD,iQ,aR,ai,ah,ad,bK,iY,uN,vp,e1,Gq,e2,e3,HC,e4,e5, -aAq];repeat refine aAM (by omega) ?_
    refine⟨o.set i u,i+1,c',b',⟨by simpa using h1,by omega,F,by omega,aH,aI,D,G⟩,by omega,by simp[aP,hC]⟩
   ·have ax:dg vs i=0:=kq (by omega);have a6:t=c:=by rw[ht,ax];simp
    subst a6;simp(disch:=omega)[aD,iQ,aR,ai,ah,iY,uN,vp,Gq,e2,e3,HC,e4,e5, -aAq];repeat refine aAM (by omega) ?_
    refine⟨o.set i u,i+1,c',b',⟨by simpa using h1,by omega,F,by omega,aH,aI,D,G⟩,by omega,by simp[aP,hC]⟩
  ·obtain rfl:i=us.length:=by omega
   simp(disch:=omega)[];have:=hK o b h1 h3 h5 (by rw[aAr,aAp (show o.length<=us.length by omega),aAp (show vs.length<=us.length by omega),h6 hl]at h8;simpa using h8)
   exact this
theorem B9{C:Ctx}{M:aC}{k k2 i0 nu nv:Nat}{K:aC->List Nat->SV->Prop}(A R:List SV)(us vs:List Nat)(hk:aA M k=some ⟨1,A++(us.map u32++R),false⟩)(au:aA M k2=some ⟨1,vs.map u32,false⟩)(ak:k2≠k)(hi:i0=A.length)(av:nu=us.length)(aw:nv=vs.length)
  (hu:∀d∈us,d<4294967296) (hv:∀d∈vs,d<4294967296) (hl:vs.length<us.length) (hs:us.length<=4398046511104)
  (hK:∀o c,o.length=us.length->(∀d∈o,d<4294967296)->val 4294967296 us+val 4294967296 vs=val 4294967296 o+4294967296^us.length*c->K (aX M k (some ⟨1,A++(o.map u32++R),false⟩)) [] (.bM [])) :
  dK ay9 C 190 [.view k i0 nu,.view k2 0 nv] M none K:=by
 subst hi av aw;refine ep Tryz.func190 rfl (by simp) [] (by simp) (by simp) (λC' hC=>?_);simp(disch:=omega)[];refine aa.loop (ι:=List Nat × Nat × Nat) (λ⟨o,i,c⟩=>⟨38,[(0,.view k A.length us.length),(1,.view k2 0 vs.length),(4,.val (.int .u64 c)),(8,.val (.int .i64 us.length)),(9,.val (.int .i64 i))],aX M k (some ⟨1,A++(o.map u32++R),false⟩)⟩)
  (λ⟨o,i,c⟩=>o.length=us.length∧i<=us.length∧(∀d∈o,d<4294967296)∧c<=1∧o.drop i=us.drop i ∧
   val 4294967296 (us.take i)+val 4294967296 (vs.take i)=val 4294967296 (o.take i)+4294967296^i*c)
  (λ⟨o,i,c⟩=>us.length - i) (us,0,0) ?_ ?_ ?_
 ·exact⟨rfl,by omega,hu,by omega,rfl,by simp[val]⟩
 ·simp[aP,hC,ot hk]
 ·rintro⟨o,i,c⟩ ⟨h1,h2,h3,h4,h7,h8⟩;have ah:=iM (M:=M) (k:=k) ⟨1,A++(o.map u32++R),false⟩ hk;have ad:aA (aX M k (some ⟨1,A++(o.map u32++R),false⟩)) k2=some ⟨1,vs.map u32,false⟩:=by rw[zN _ hk ak];exact au
  by_cases aR:i<us.length
  ·have bo:=dZ h3 (by omega) i;have bv:=dZ hv (by omega) i;have ho:dg o i=dg us i:=uS h7;obtain⟨t,ht⟩:∃t,t=dg o i+c+dg vs i:=⟨_,rfl⟩;have e1:(dg o i:Int)+c+dg vs i=t:=by rw[ht];push_cast;rfl
   obtain⟨c',ap⟩:∃c',c'=t / 4294967296:=⟨_,rfl⟩;obtain⟨lo,a4⟩:∃lo,lo=t % 4294967296:=⟨_,rfl⟩;have e2:(t:Int) % 4294967296=lo:=by omega
   have e3:(t:Int) / 4294967296=c':=by omega
   have am:lo<4294967296:=by omega
   have F:=kW i h3 am;have G:val 4294967296 (us.take (i+1))+val 4294967296 (vs.take (i+1))=val 4294967296 ((o.set i lo).take (i+1))+4294967296^(i+1)*c':=by
    rw[dJ,dJ _ vs,dR _ (by omega),dq,aAc,aAs (by omega),ayX];simp only[val,aAE,axU];have e:dg us i+c+dg vs i=lo+4294967296*c':=by omega
    generalize 4294967296^i=P at *;grind
   have D:(o.set i lo).drop (i+1)=us.drop (i+1):=by rw[fL];exact jV h7
   by_cases ai:i<vs.length
   ·simp(disch:=omega)[aD,iQ,aR,ai,ah,ad,bK,iY,uN,vp,e1,e2,e3, -aAq];repeat refine aAM (by omega) ?_
    refine⟨o.set i lo,i+1,c',⟨by simpa using h1,by omega,F,by omega,D,G⟩,by omega,by simp[aP,hC]⟩
   ·have ax:dg vs i=0:=kq (by omega);rw[ax]at e1;simp at e1;simp(disch:=omega)[aD,iQ,aR,ai,ah,iY,uN,vp,e1,e2,e3, -aAq];repeat refine aAM (by omega) ?_
    refine⟨o.set i lo,i+1,c',⟨by simpa using h1,by omega,F,by omega,D,G⟩,by omega,by simp[aP,hC]⟩
  ·obtain rfl:i=us.length:=by omega
   simp(disch:=omega)[];have:=hK o c h1 h3 (by rw[aAr,aAp (show o.length<=us.length by omega),aAp (show vs.length<=us.length by omega)]at h8;simpa using h8)
   exact this
end Go.Proofs
namespace Go.Proofs
open Go.Sv Go Go.Pl
theorem QB(m:List Nat)(b:Nat)(hm:∀d∈m,d<4294967296)(hb:b<32)(hl:m.length<=4398046511104) :
  aE ay9 191 [.ro (m.map u32),.val (.int .u64 b)] (.ro ((bO 4294967296 (val 4294967296 m / 2^b)).map u32)):=by
 refine aj Tryz.func191 rfl (by simp) (λC hC=>?_);simp(disch:=omega)[];refine⟨by omega,?_⟩;refine aa.loop (ι:=List Nat × Nat) (λ⟨o,i⟩=>⟨45,[(0,.ro (m.map u32)),(1,.val (.int .u64 b)),(5,.view 0 0 m.length),(12,.val (.int .i64 m.length)),(13,.val (.int .i64 i))],[some ⟨1,o.map u32,false⟩]⟩)
  (λ⟨o,i⟩=>o.length=m.length∧i<=m.length∧(∀d∈o,d<4294967296)∧val 4294967296 (o.take i)+4294967296^i*(val 4294967296 (m.drop i) / 2^b)=val 4294967296 m / 2^b)
  (λ⟨o,i⟩=>m.length - i) (awQ m.length 0,0) ?_ ?_ ?_
 ·exact⟨by simp,by omega,by simp,by simp[val]⟩
 ·simp[aP,hC]
 ·rintro⟨o,i⟩ ⟨h1,h2,h3,h4⟩;by_cases aR:i<m.length
  ·have b0:=dZ hm (by omega) i;have b1:=dZ hm (by omega) (i+1);obtain⟨y,hy⟩:∃y,y=(dg m i+4294967296*dg m (i+1)) / 2^b % 4294967296:=⟨_,rfl⟩;have hp:(0:Nat)<2^b:=aAv b;have a7:min b 64=b:=by omega
   have F:=kW i h3 (show y<4294967296 by omega);have G:val 4294967296 ((o.set i y).take (i+1))+4294967296^(i+1)*(val 4294967296 (m.drop (i+1)) / 2^b)=val 4294967296 m / 2^b:=by rw[dR _ (by omega),dq,aAc,aAs (by omega),ayX];rw[dH _ m i,dH _ m (i+1),IK (by omega) b0,<-dH _ m (i+1),<-hy]at h4;simp only[val,aAE,axU];rw[<-h4];grind
   by_cases ai:i+1<m.length
   ·have e1:((dg m i:Int)+dg m (i+1)*4294967296) / 2^b % 4294967296=y:=by
     rw[hy];simp[aAJ]
    have ag:(i:Int)+1<m.length:=by omega
    simp(disch:=omega)[aD,iQ,aR,ag,bK,iY,OQ,e1,my, -aAq];repeat refine aAM (by omega) ?_
    refine⟨o.set i y,i+1,⟨by simpa using h1,by omega,F,G⟩,by omega,by simp[aP,hC]⟩
   ·have e1:(dg m i:Int) / 2^b % 4294967296=y:=by
     have:=kq (l:=m) (i:=i+1) (by omega);rw[hy,this];simp
    have ag:¬(i:Int)+1<m.length:=by omega
    simp(disch:=omega)[aD,iQ,aR,ag,bK,iY,e1,my, -aAq];repeat refine aAM (by omega) ?_
    refine⟨o.set i y,i+1,⟨by simpa using h1,by omega,F,G⟩,by omega,by simp[aP,hC]⟩
  ·obtain rfl:i=m.length:=by omega
   simp(disch:=omega)[];have e1:m.drop m.length=[]:=aAn (by omega);rw[e1,aAp (by omega)]at h4;simp[val]at h4;have:=pD o (by omega);rw[<-gz (by omega) o h3,h4]at this;refine bz this (by simp[aAp,h1]) ?_;simp
end Go.Proofs

