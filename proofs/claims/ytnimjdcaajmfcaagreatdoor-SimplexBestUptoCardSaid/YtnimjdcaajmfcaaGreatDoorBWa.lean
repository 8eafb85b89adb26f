/- A text of the prover's own. -/
import Derived.Test.YtnimjdcaajmfcaaGreatDoorBPl
import Derived.Test.YtnimjdcaajmfcaaGreatDoorBTy
open Go.Proofs.Tryz renaming prog->awW,func147->axk
open List renaming eq_nil_or_concat->at6,concat_eq_append->at7,length_pos_iff->aua,drop_eq_nil_of_le->aub,take_succ_eq_append_getElem->auc,take_of_length_le->aud,length_cons->asw,map_set->aue,replicate->asr,length_take->auf,take_length->aug
open Go.IntKind renaming u64->awR,u32->awS
open Nat renaming le_trans->atj,lt_or_ge->as2,min_eq_left->auh,two_pow_add_eq_or_of_lt->aui,or_comm->auj,two_pow_pos->auk,pow_add->aul,mod_add_div->atK,mod_lt->asW,div_lt_iff_lt_mul->aum,mul_le_mul_left->atQ,add_mul_div_left->aun,div_eq_of_lt->auo,add_mul_mod_self_left->aup,mod_eq_of_lt->auq,mul_le_mul_right->asK,add_mul->asn,mul_assoc->atP,mul_lt_mul_of_pos_left->aur,pow_succ->atL,mul_le_mul->aus,add_assoc->asM,mul_zero->aut,add_zero->as3,pow_le_pow_right->atS
open Int renaming lt_trichotomy->auu,natCast_mul->auv,neg_mul->auw,mul_neg->auy,mul_comm->auz
open BitVec renaming ofInt->p7,toNat_ofInt->axl,toNat_or->axm
open And renaming intro->auA
set_option maxRecDepth 10000
namespace Go.Proofs
open Go.Sv Go Go.Pl
def cR(x:Int):SV:=.agg [.val (.bool (decide (x<0))),.ro ((bO 4294967296 x.natAbs).map u32)]
@[simp] theorem aes(x:Int):(cR x).gJ=2:=rfl
@[simp] theorem V2(x:Int):(cR x).aV=false:=rfl
@[simp] theorem Wg(x:Int):(cR x).isAgg=true:=rfl
@[simp] theorem Zw(x:Int):(cR x).pure=true:=rfl
@[simp] theorem ahO(n:Nat)(x:Int):(cR x).lt n=true:=rfl
@[simp] theorem ah3(x:Int):(cR x).ks=[]:=rfl
@[simp] theorem afj(M:aD)(x:Int)(y:SV):Sub M (cR x) y=(y=cR x):=by
 cases y with
 | agg l =>
  match l with
  | []=>simp[cR,cK]
  | [a]=>simp[cR,Sv.Sub,cK]
  | a::b::c::r=>simp[cR,Sv.Sub,cK]
  | [a,b]=>cases a<;>simp[cR,Sv.Sub,cK];intro _;exact eq_comm
 | _=>simp[cR,Sv.Sub]
theorem nZ(xs:List Nat)(h:xs.length<=4398046511104):aG awW 147 [.ro (xs.map u32)] (.ro ((cC xs).map u32)):=by
 refine aj axk rfl (by simp) (λC hC=>?_);simp;refine aa.loop (ι:=List Nat) (λl=>⟨21,[(0,.ro (l.map u32))],[]⟩) (λl=>l.length<=4398046511104∧cC l=cC xs) (λl=>l.length) xs ?_ ?_ ?_
 ·simp[h]
 ·simp[aR]
 ·rintro l ⟨hl,ht⟩;rcases at6 l with rfl | ⟨zs,z,rfl⟩
  ·simp[<-ht];simp[cC]
  ·simp at hl;rw[at7]at ht;simp(disch:=omega)[aK];refine⟨by omega,λhz=>⟨by omega,zs,⟨by omega,by rw[<-ht,hz,oA]⟩,by omega,by simp[aR,hC]⟩,λhz=>?_⟩;simp[<-ht,rO _ hz]
theorem kD(b:Bool)(xs:List Nat)(h:xs.length<=4398046511104)(hx:∀d∈xs,d<4294967296) :
  aG awW 136 [.val (.bool b),.ro (xs.map u32)] (cR (if b=true then -(val 4294967296 xs:Int) else(val 4294967296 xs:Int))):=by
 refine aj Tryz.func136 rfl (by simp) (λC hC=>?_);simp;refine bg (nZ xs h) (by simp) ?_;rw[<-gI (by omega) xs hx];generalize val 4294967296 xs=n;cases b with
 | false=>
  simp[cR]
 | true =>
  simp[cR,aua,bX];by_cases h:n=0<;>simp[h];omega
theorem m4(n:Int)(h1 : -9223372036854775808<=n)(h2:n<=9223372036854775807):aG awW 103 [.val (.int .i64 n)] (cR n):=by
 refine aj Tryz.func103 rfl (by simp) (λC hC=>?_);have key:∀m:Nat,m<=9223372036854775808->bO 4294967296 m=cC [m % 4294967296,m / 4294967296]:=λm hm=>by rw[<-gI (B:=4294967296) (by omega) _ (by simp;omega)];congr 1;simp[val];omega
 by_cases hn:n<0
 ·obtain⟨m,rfl⟩:∃m:Nat,n = -(m:Int):=⟨n.natAbs,by omega⟩;have hm:0<m:=by omega
  have e1:awR.wrap (-awR.wrap (-(m:Int)))=m:=by simp only[Eu];omega
  have e2:awS.wrap ((m:Int) / 4294967296)=((m / 4294967296:Nat):Int):=by simp only[ix];omega
  simp[hm,e1,e2,ix];refine bg (nZ [m % 4294967296,m / 4294967296] (by simp)) (by simp) ?_;simp;refine bg (kD true (cC [m % 4294967296,m / 4294967296]) (atj (tP _) (by simp)) (Df _ (by simp;omega))) (by simp) ?_;simp[Fq,val,cR];rw[show((m:Int) % 4294967296+4294967296*((m:Int) / 4294967296))=m from by omega];simp
 ·obtain⟨m,rfl⟩:∃m:Nat,n=(m:Int):=⟨n.natAbs,by omega⟩;have e1:awR.wrap (m:Int)=m:=by simp only[Eu];omega
  have e2:awS.wrap ((m:Int) / 4294967296)=((m / 4294967296:Nat):Int):=by simp only[ix];omega
  simp[hn,e1,e2,ix];refine bg (nZ [m % 4294967296,m / 4294967296] (by simp)) (by simp) ?_;simp;refine bg (kD false (cC [m % 4294967296,m / 4294967296]) (atj (tP _) (by simp)) (Df _ (by simp;omega))) (by simp) ?_;simp[Fq,val,cR];rw[show((m:Int) % 4294967296+4294967296*((m:Int) / 4294967296))=m from by omega];simp
end Go.Proofs
namespace Go.Proofs
open Go.Sv Go Go.Pl
theorem sf(m n:Nat)(hm:wid 4294967296 m<=4398046511104)(hn:wid 4294967296 n<=4398046511104) :
  aG awW 149 [.ro ((bO 4294967296 m).map u32),.ro ((bO 4294967296 n).map u32)] (.val (.int .i64 (dW m n))):=by
 refine aj Tryz.func149 rfl (by simp) (λC hC=>?_);have vm:=ct (B:=4294967296) (by omega) m;have vn:=ct (B:=4294967296) (by omega) n;have lm:=cV (B:=4294967296) (by omega) m;have ln:=cV (B:=4294967296) (by omega) n;simp only[wid]at hm hn;simp;refine⟨λak=>⟨λaP=>?_,λaI=>?_⟩,λhe=>?_⟩
 ·simp[dW,qa (by omega) aP]
 ·have:=qa (B:=4294967296) (m:=n) (n:=m) (by omega) (by omega);simp[dW,this];omega
 ·refine aa.loop (ι:=List Nat × List Nat × List Nat) (λ⟨la,lb,r⟩=>⟨41,[(0,.ro ((la++r).map u32)),(1,.ro ((lb++r).map u32)),(5,.val (.int .i64 ((la.length:Int) - 1)))],[]⟩)
   (λ⟨la,lb,r⟩=>bO 4294967296 m=la++r∧bO 4294967296 n=lb++r∧la.length=lb.length) (λ⟨la,lb,r⟩=>la.length) (bO 4294967296 m,bO 4294967296 n,[]) ?_ ?_ ?_
  ·simp;omega
  ·simp(disch:=omega)[aR,aK]
  ·rintro⟨la,lb,r⟩ ⟨h1,h2,h3⟩;rcases at6 la with rfl | ⟨la,x,rfl⟩
   ·have:lb=[]:=by cases lb<;>simp_all
    subst this;simp;have:m=n:=by rw[<-vm,<-vn,h1,h2]
    simp[dW,this]
   ·rcases at6 lb with rfl | ⟨lb,y,rfl⟩
    ·simp at h3
    simp at h1 h2 h3;simp[h3];have hl:lb.length<4398046511104:=by rw[h2]at hn;simp at hn;omega
    refine aa.asj (.qs [0,1,2,3,4,5,6,7,8] .nil) ?_;have c1:x<y->m<n:=λh=>by rw[<-vm,<-vn,h1,h2];exact xm (λd hd=>lm d (by rw[h1];simp[hd])) h3 h
    have c2:y<x->n<m:=λh=>by rw[<-vm,<-vn,h1,h2];exact xm (λd hd=>ln d (by rw[h2];simp[hd])) h3.symm h
    simp(disch:=omega)[xc,aK];refine⟨by omega,by omega,λak=>?_,λhe=>?_⟩
    ·refine aa.draw (.qs [0,1,2,3,4,5,6,7,8] .nil) (by kernel_rfl) (by kernel_rfl) (by simp) ?_;simp(disch:=omega)[xc];refine⟨by omega,by omega,λaP=>?_,λaI=>?_⟩
     ·simp[dW,c1 aP]
     ·have:=c2 (by omega);simp[dW,this];omega
    ·refine⟨la,lb,y::r,?_⟩;have he:x=y:=by omega
     simp[h1,h2,h3,he,aR,hC]
theorem GF(x y:Int)(hm:wid 4294967296 x.natAbs<=4398046511104)(hn:wid 4294967296 y.natAbs<=4398046511104) :
  aG awW 133 [cR x,cR y] (.val (.int .i64 (if x<y then -1 else if y<x then 1 else 0))):=by
 refine aj Tryz.func133 rfl (by simp) (λC hC=>?_);have hc:=sf _ _ hm hn;by_cases hx:x<0<;>by_cases hy:y<0<;>simp[cR,hx,hy]
 ·refine bg hc (by simp) ?_;rcases auu x y with h | h | h
  ·have e:dW x.natAbs y.natAbs=1:=by rw[dW,if_neg (by omega),if_pos (by omega)]
   simp[e,h,aK]
  ·subst h;simp[dW,aK]
  ·have e:dW x.natAbs y.natAbs = -1:=by rw[dW,if_pos (by omega)]
   have:¬x<y:=by omega
   simp[e,h,this,aK]
 ·omega
 ·omega
 ·refine bg hc (by simp) ?_;rcases auu x y with h | h | h
  ·have e:dW x.natAbs y.natAbs = -1:=by rw[dW,if_pos (by omega)]
   simp[e,h]
  ·subst h;simp[dW]
  ·have e:dW x.natAbs y.natAbs=1:=by rw[dW,if_neg (by omega),if_pos (by omega)]
   have:¬x<y:=by omega
   simp[e,h,this]
theorem nF(x:Int):aG awW 91 [cR x] (.val (.int .i64 x.sign)):=by refine aj Tryz.func91 rfl (by simp) (λC hC=>?_);simp[cR,bX];refine⟨λh=>by simp[h],λ_=>⟨λh=>(Int.sign_eq_neg_one_of_neg h).symm,λh=>(Int.sign_eq_one_of_pos (by omega)).symm⟩⟩
theorem Dh(x:Int):0<(bO 4294967296 x.natAbs).length↔x≠0:=by rw[aua,ne_eq,bX (by omega)];omega
theorem yk(x:Int):aG awW 104 [cR x] (cR (-x)):=by
 refine aj Tryz.func104 rfl (by simp) (λC hC=>?_);simp[cR,Dh];refine⟨λh=>?_,λh=>by omega⟩;by_cases h0:x=0
 ·simp[h0]
 ·have:0<x:=by omega
  simp[h0,this]
end Go.Proofs
namespace Go.Pl
open Go.Sv Go
theorem mg{α:Type}{l:List α}{i:Nat}{x:α}(h:i<l.length):l.getD i x=l[i]:=by simp[h]
theorem sX{α:Type}{l:List α}{i:Nat}{x:α}(h:l.length<=i):l.getD i x=x:=by simp[h]
def dg(l:List Nat)(i:Nat):Nat:=l.getD i 0
theorem dT{B:Nat}{l:List Nat}(h:∀d∈l,d<B)(hB:0<B)(i:Nat):dg l i<B:=by
 unfold dg;rcases as2 i l.length with h' | h'
 ·rw[mg h'];exact h _ (List.getElem_mem h')
 ·rw[sX h'];exact hB
theorem jC{l:List Nat}{i:Nat}(h:l.length<=i):dg l i=0:=by unfold dg;exact sX h
theorem dm(B:Nat)(l:List Nat)(i:Nat):val B (l.drop i)=dg l i+B*val B (l.drop (i+1)):=by
 unfold dg;rcases as2 i l.length with h | h
 ·rw[List.drop_eq_getElem_cons h,mg h];rfl
 ·rw[aub h,aub (by omega),sX h];simp[val]
theorem lB(B:Nat)(l:List Nat)(i:Nat)(h:i<=l.length):val B (l.take (i+1))=val B (l.take i)+B^i*dg l i:=by
 unfold dg;rcases as2 i l.length with h' | h'
 ·rw[auc h',mg h',cU];simp[val,auh h]
 ·have:i=l.length:=by omega
  subst this;rw[sX (Nat.le_refl _),aud (by omega),aud (by omega)];simp
theorem rR{α:Type}(l:List α):l=[]∨∃zs z,l=zs++[z]:=by
 rcases at6 l with h | ⟨zs,z,h⟩
 ·exact .inl h
 ·exact .inr ⟨zs,z,by rw[h,at7]⟩
theorem xu(q:List Nat):q.take (cC q).length=cC q:=by
 induction q with
 | nil=>rfl
 | cons d q ih =>
  simp only[cC];split
  ·split<;>simp_all
  ·rename_i e r h;rw[h]at ih;simp only[asw,List.take_succ_cons]at ih ⊢;rw[ih]
theorem nP{B x:Nat}{l:List Nat}(h:∀d∈l,d<B)(hx:x<B):∀d∈l++[x],d<B:=by
 intro d hd;rcases List.mem_append.1 hd with hd | hd
 ·exact h d hd
 ·simp at hd;omega
theorem Qj{B x:Nat}{l:List Nat}(h:∀d∈l,d<B)(hx:x<B):∀d∈x::l,d<B:=by
 intro d hd;rcases List.mem_cons.1 hd with hd | hd
 ·omega
 ·exact h d hd
theorem kd{B x:Nat}{l:List Nat}(i:Nat)(h:∀d∈l,d<B)(hx:x<B):∀d∈l.set i x,d<B:=by
 intro d hd;rcases List.mem_or_eq_of_mem_set hd with hd | hd
 ·exact h d hd
 ·omega
theorem bB{xs:List Nat}{i:Nat}(h:i<xs.length):aL (xs.map u32) i=.val (.int .u32 ((dg xs i:Nat):Int)):=by rw[zh _ _ _ h];simp[dg,h]
theorem dM{xs:List Nat}{i:Nat}(h:i<xs.length):aL (xs.map i64) i=.val (.int .i64 ((dg xs i:Nat):Int)):=by rw[zh _ _ _ h];simp[dg,h]
theorem HC{xs:List Nat}{i:Nat}(h:i<xs.length):aL (xs.map u8) i=.val (.int .u8 ((dg xs i:Nat):Int)):=by rw[zh _ _ _ h];simp[dg,h]
theorem Ix(xs:List Nat)(i z:Nat):cZ (xs.map u8) i (.val (.int .u8 (z:Int)))=(xs.set i z).map u8:=by rw[ec,<-Sw,aue]
theorem lS(xs:List Nat)(i z:Nat):cZ (xs.map u32) i (.val (.int .u32 (z:Int)))=(xs.set i z).map u32:=by rw[ec,<-H3,aue]
theorem Mh(xs:List Nat)(i z:Nat):cZ (xs.map i64) i (.val (.int .i64 (z:Int)))=(xs.set i z).map i64:=by rw[ec,<-Ol,aue]
theorem du{l:List Nat}{i:Nat}(x:Nat)(h:i<l.length):(l.set i x).take (i+1)=l.take i++[x]:=by rw[auc (by simpa using h)];simp[List.take_set_of_le]
theorem EJ(x y:Int)(hx:0<=x∧x<4294967296)(hy:0<=y∧y<4294967296):(((p7 64 (x*4294967296) ||| p7 64 y).toNat:Nat):Int)=x*4294967296+y:=by
 obtain⟨a,rfl⟩:∃a:Nat,x=a:=⟨x.toNat,by omega⟩;obtain⟨b,rfl⟩:∃b:Nat,y=b:=⟨y.toNat,by omega⟩;have e1:(p7 64 ((a:Int)*4294967296)).toNat=2^32*a:=by rw[axl];simp;omega
 have e2:(p7 64 (b:Int)).toNat=b:=by rw[axl];simp;omega
 rw[axm,e1,e2,<-aui (by omega)];omega
theorem l7(x y:Int)(hx:0<=x∧x<4294967296)(hy:0<=y∧y<4294967296):uz .or .u64 (x*4294967296) y=x*4294967296+y:=by
 have:=EJ x y hx hy;simp only[uz]
 erw [this]
 rw[ig];omega
theorem Ed(x:Int)(hx:0<=x∧x<=18446744073709551615):uz .and .u64 x 4294967295=x % 4294967296:=by
 obtain⟨a,rfl⟩:∃a:Nat,x=a:=⟨x.toNat,by omega⟩;have e1:(p7 64 (a:Int)).toNat=a:=by rw[axl];simp;omega
 have e2:(p7 64 4294967295).toNat=2^32 - 1:=by decide
 have e3:(p7 64 (a:Int) &&& p7 64 4294967295).toNat=a % 4294967296:=by rw[BitVec.toNat_and,e1,e2,Nat.and_two_pow_sub_one_eq_mod]
 simp only[uz]
 erw [e3]
 rw[ig]<;>omega
theorem dr(B:Nat)(l:List Nat)(i:Nat):val B (l.take (i+1))=val B (l.take i)+B^i*dg l i:=by
 rcases as2 l.length i with h | h
 ·rw[aud (by omega),aud (by omega),jC (by omega)];simp
 ·exact lB B l i h
theorem val_zero(B:Nat):∀(l:List Nat),(∀d∈l,d=0)->val B l=0
 | [],_=>rfl
 | d::l,h=>by simp[val,h d (by simp),val_zero B l λe he=>h e (by simp[he])]
theorem BQ(B n:Nat):val B (asr n 0)=0:=by
 induction n with
 | zero=>rfl
 | succ n ih=>simp[List.replicate_succ,val,ih]
theorem sT(A R:List SV){us:List Nat}{i:Nat}(h:i<us.length):aL (A++(us.map u32++R)) (A.length+i)=.val (.int .u32 ((dg us i:Nat):Int)):=by
 induction A with
 | nil=>simp only[List.nil_append,List.length_nil,Nat.zero_add];rw[Ey (by simpa using h),bB h]
 | cons a A ih =>
  rw[asw,show A.length+1+i=A.length+i+1 by omega];exact ih
theorem uf(A R:List SV){us:List Nat}{i:Nat}(z:Nat)(h:i<us.length):cZ (A++(us.map u32++R)) (A.length+i) (.val (.int .u32 (z:Int)))=A++((us.set i z).map u32++R):=by rw[ec,List.set_append_right _ _ (by omega),Nat.add_sub_cancel_left,List.set_append_left _ _ (by simpa using h),<-H3,aue]
theorem KI(x y:Int)(hx:0<=x∧x<4294967296)(hy:0<=y∧y<4294967296):uz .or .u64 x (y*4294967296)=x+y*4294967296:=by
 have:=EJ y x hy hx;have e:((p7 64 x ||| p7 64 (y*4294967296)).toNat:Int)=y*4294967296+x:=by rw[<-this,axm,axm,auj]
 simp only[uz]
 erw [e]
 rw[ig]<;>omega
theorem He{b d e Z:Nat}(hb:b<=32)(hd:d<4294967296):(d+4294967296*(e+4294967296*Z)) / 2^b=(d+4294967296*e) / 2^b % 4294967296+4294967296*((e+4294967296*Z) / 2^b):=by
 have hp:0<2^b:=auk b;have hB:4294967296=2^b*2^(32 - b):=by rw[<-aul,show b+(32 - b)=32 by omega]
 obtain⟨r,s,he,hr⟩:∃r s,e=r+2^b*s∧r<2^b:=⟨e % 2^b,e / 2^b,(atK _ _).symm,asW _ hp⟩;have h1:(d+4294967296*r) / 2^b<4294967296:=by rw[aum hp];have:=atQ 4294967296 (show r+1<=2^b by omega);omega
 have h2:(d+4294967296*e) / 2^b=(d+4294967296*r) / 2^b+4294967296*s:=by rw[he,show d+4294967296*(r+2^b*s)=(d+4294967296*r)+2^b*(4294967296*s) by grind,aun _ _ hp]
 have h3:(e+4294967296*Z) / 2^b=s+2^(32 - b)*Z:=by rw[he,show r+2^b*s+4294967296*Z=r+2^b*(s+2^(32 - b)*Z) by(conv=>lhs;rhs;lhs;rw[hB]);grind,aun _ _ hp,auo hr];omega
 have h4:(d+4294967296*(e+4294967296*Z)) / 2^b=(d+4294967296*r) / 2^b+4294967296*(s+2^(32 - b)*Z):=by
  rw[show d+4294967296*(e+4294967296*Z)=(d+4294967296*r)+2^b*(4294967296*(s+2^(32 - b)*Z)) by rw[he,show r+2^b*s+4294967296*Z=r+2^b*(s+2^(32 - b)*Z) by(conv=>lhs;rhs;lhs;rw[hB]);grind];grind,aun _ _ hp]
 rw[h4,h2,h3,aup,auq h1]
theorem nH{l:List Nat}{i:Nat}(x:Nat)(h:i<l.length)(j:Nat):dg (l.set i x) j=if i=j then x else dg l j:=by unfold dg;simp only[List.getD_eq_getElem?_getD,List.getElem?_set,h];split<;>simp_all
theorem KG(n i:Nat):dg (asr n 0) i=0:=by unfold dg;rcases as2 i n with h | h<;>simp[h]
theorem Kh(x y:Int)(a b k:Nat)(hx:x=a)(hy:y=((2^k*b:Nat):Int))(ha:a<2^k)(hs:a+2^k*b<4294967296):uz .or .u32 x y=((a+2^k*b:Nat):Int):=by
 subst hx hy;have e1:(p7 32 (a:Int)).toNat=a:=by rw[axl];simp;omega
 have e2:(p7 32 ((2^k*b:Nat):Int)).toNat=2^k*b:=by rw[axl];simp only[Nat.reducePow];omega
 have e3:(p7 32 (a:Int) ||| p7 32 ((2^k*b:Nat):Int)).toNat=a+2^k*b:=by rw[axm,e1,e2,auj,<-aui ha];omega
 simp only[uz]
 erw [e3]
 rw[N7]<;>omega
/-! Steps of reckoning by digits. -/
theorem xF{B P vo T a ra bw b rb ay u:Nat}(h:vo+P*(a+B*ra)=T+P*(bw+(b+B*rb)))(e:a+B*ay=u+b+bw) :
  vo+P*u+P*B*ra=T+P*B*(ay+rb):=by grind
theorem J6{B Pi Pj r1 c ro x y d u c' od:Nat}(h:r1+Pi*Pj*c=ro+Pi*(x*od))(e:x*y+d+c=u+B*c') :
  (r1+Pi*Pj*u)+Pi*Pj*B*c'=(ro+Pi*Pj*d)+Pi*(x*(od+Pj*y)):=by grind
theorem fj{l:List Nat}{i:Nat}(x:Nat):(l.set i x).drop (i+1)=l.drop (i+1):=by rw[List.drop_set_of_lt (by omega)]
theorem ue{l l':List Nat}{i:Nat}(h:l.drop i=l'.drop i):dg l i=dg l' i:=by have h1:=dm 0 l i;have h2:=dm 0 l' i;rw[h]at h1;simp at h1 h2;omega
theorem jg{l l':List Nat}{i:Nat}(h:l.drop i=l'.drop i):l.drop (i+1)=l'.drop (i+1):=by have:=congrArg (List.drop 1) h;simpa[List.drop_drop,Nat.add_comm]using this
theorem Jy{B P ud c b vo g vd u u' b' c' v:Nat}(h:ud+P*(c+b)=vo+g*vd)(e:u+B*b'+B*c'=u'+b+(g*v+c)) :
  (ud+P*u)+P*B*(c'+b')=(vo+P*u')+g*(vd+P*v):=by grind
theorem Gg{B P lo d rest ab hi q r N:Nat}(h:N=(lo+P*d+P*B*rest)+ab*(P*B*hi))(e:rest*B+d=ab*q+r) :
  N=(lo+P*r)+ab*(P*(q+B*hi)):=by grind
theorem Ki{B K v1 v2 V0 top u2 U0 g rest q U V:Nat}(hV:V=(v1*B+v2)*K+V0)(hU:U=(top*B+u2)*K+U0)(a8:U0<K)(hq:q*V<=U)
  (ht:g*v1+rest=top) (a9:rest*B+u2<g*v2):q<g:=by
 rcases as2 q g with h | h
 ·exact h
 ·exfalso;have h1:g*V<=U:=atj (asK V h) hq;have h2:g*((v1*B+v2)*K)<=g*V:=atQ g (by omega);have h3:top*B+u2+1<=g*(v1*B+v2):=by
   have:g*(v1*B+v2)=g*v1*B+g*v2:=by grind
   rw[this,<-ht,asn];omega
  have h4:=asK K h3;rw[asn,Nat.one_mul,atP]at h4;omega
theorem Ju{B K v1 v2 V0 top u2 U0 g rest U V:Nat}(hV:V=(v1*B+v2)*K+V0)(hU:U=(top*B+u2)*K+U0)(aJ:V0<K)(aM:1<=v1)(hg:g<=B)
  (ht:g*v1+rest=top) (hle:g*v2<=rest*B+u2) (hB:0<B):g*V<U+V:=by
 have h3:g*(v1*B+v2)<=top*B+u2:=by
  have:g*(v1*B+v2)=g*v1*B+g*v2:=by grind
  rw[this,<-ht,asn];omega
 have h4:=asK K h3;have h5:g*V=g*(v1*B+v2)*K+g*V0:=by rw[hV];grind
 have h6:B*K<=V:=by
  have:B*K<=v1*B*K:=asK K (by simpa using asK B aM);have e:(v1*B+v2)*K=v1*B*K+v2*K:=by grind
  omega
 have h7:g*V0<=B*V0:=asK V0 hg;have h8:B*V0<B*K:=aur aJ hB;omega
theorem Gz{q g U V:Nat}(hq:U / V=q)(hV:0<V)(h1:q<=g)(h2:g*V<U+V):g=q∨(g=q+1):=by
 have:U<(q+1)*V:=by rw[<-hq];exact Nat.lt_mul_of_div_lt (by omega) hV
 have h3:g*V<(q+2)*V:=by
  have:(q+2)*V=(q+1)*V+V:=by grind
  omega
 have:=Nat.lt_of_mul_lt_mul_right h3;omega
end Go.Pl
namespace Go.Proofs
open Go.Sv Go Go.Pl
def Rv(B n k:Nat)(x:SV):Prop:=∃l:List Nat,x=.ro (l.map u32)∧(∀d∈l,d<B)∧val B l=n∧l.length<=k
theorem O4(a b:List Nat)(ha:∀d∈a,d<4294967296)(hb:∀d∈b,d<4294967296)(az:a.length<=4398046511104)(aB:b.length<=4398046511104) :
  rC awW 148 [.ro (a.map u32),.ro (b.map u32)] (Rv 4294967296 (val 4294967296 a+val 4294967296 b) (max a.length b.length+1)):=by
 refine aj Tryz.func148 rfl (by simp) (λC hC=>?_);obtain⟨s,hs⟩:∃s,s=val 4294967296 a+val 4294967296 b:=⟨_,rfl⟩;obtain⟨k,hk⟩:∃k,k=max a.length b.length+1:=⟨_,rfl⟩;obtain⟨p,q,hp,hq,aN,ae,ao,ah,aO⟩:∃p q:List Nat,(∀d∈p,d<4294967296)∧(∀d∈q,d<4294967296)∧p.length<=4398046511104∧q.length<=p.length∧val 4294967296 p+val 4294967296 q=s∧p.length+1=k ∧
   (a.length<b.length∧p=b∧q=a∨¬a.length<b.length∧p=a∧q=b):=by
  rcases as2 a.length b.length with h | h
  ·exact⟨b,a,hb,ha,aB,by omega,by omega,by omega,.inl ⟨h,rfl,rfl⟩⟩
  ·exact⟨a,b,ha,hb,az,by omega,by omega,by omega,.inr ⟨by omega,rfl,rfl⟩⟩
 rw[<-hs,<-hk];clear hs hk ha hb az aB;rcases aO with⟨h,e1,e2⟩ | ⟨h,e1,e2⟩;all_goals
  subst e1 e2;simp(disch:=omega)[h,aK];refine⟨by omega,?_⟩;refine aa.loop (ι:=List Nat × Nat)
   (λ⟨out,c⟩=>⟨56,[(0,.ro (p.map u32)),(1,.ro (q.map u32)),(5,.view 0 0 out.length),(6,.val (.int .u64 c)),(21,.val (.int .i64 p.length)),(22,.val (.int .i64 out.length))],[some ⟨1,out.map u32,false⟩]⟩)
   (λ⟨out,c⟩=>out.length+1<=k∧c<=1∧(∀d∈out,d<4294967296) ∧
    val 4294967296 out+4294967296^out.length*(c+(val 4294967296 (p.drop out.length)+val 4294967296 (q.drop out.length)))=s)
   (λ⟨out,c⟩=>k - out.length) ([],0) ?_ ?_ ?_
  ·simpa[val]using⟨by omega,ao⟩
  ·simp[aR,hC]
  ·rintro⟨out,c⟩ ⟨h1,h2,h3,h4⟩;have bp:=dT hp (by omega) out.length;have bq:=dT hq (by omega) out.length;obtain⟨x,hx⟩:∃x,x=dg p out.length+c+dg q out.length:=⟨_,rfl⟩;have F1:∀d∈out++[x % 4294967296],d<4294967296:=nP h3 (by omega);have F2:val 4294967296 (out++[x % 4294967296])+4294967296^(out.length+1)*(x / 4294967296+(val 4294967296 (p.drop (out.length+1))+val 4294967296 (q.drop (out.length+1))))=s:=by
    rw[<-h4,xR,dm _ p out.length,dm _ q out.length,hx];congr 2;omega
   by_cases aP:out.length<p.length
   ·by_cases ae:out.length<q.length
    ·simp(disch:=omega)[aP,ae,aK,ig,hC,bB,ix];exact⟨by omega,out++[x % 4294967296],x / 4294967296,⟨by simp;omega,by omega,F1,by simpa using F2⟩,by simp;omega,by subst hx;simp[aR,hC]⟩
    ·have:=jC (l:=q) (i:=out.length) (by omega);rw[this]at hx;simp(disch:=omega)[aP,ae,aK,ig,hC,bB,ix];exact⟨by omega,out++[x % 4294967296],x / 4294967296,⟨by simp;omega,by omega,F1,by simpa using F2⟩,by simp;omega,by subst hx;simp[aR,hC]⟩
   ·simp(disch:=omega)[aP,N7,hC];refine⟨by omega,?_⟩;have e1:p.drop out.length=[]:=aub (by omega);have e2:q.drop out.length=[]:=aub (by omega);simp only[e1,e2,val]at h4;refine⟨_,?_,out++[c],rfl,?_,?_,?_⟩
    ·simp[aud]
    ·exact nP h3 (by omega)
    ·rw[cU];simp[val,<-h4]
    ·simp;omega
end Go.Proofs
namespace Go.Proofs
open Go.Sv Go Go.Pl
theorem DF(p q:List Nat)(hp:∀d∈p,d<4294967296)(hq:∀d∈q,d<4294967296)(aN:p.length<=4398046511104)(ae:q.length<=p.length)(T:Nat)(hT:val 4294967296 p=T+val 4294967296 q) :
  rC awW 150 [.ro (p.map u32),.ro (q.map u32)] (Rv 4294967296 T p.length):=by
 refine aj Tryz.func150 rfl (by simp) (λC hC=>?_);simp(disch:=omega)[];refine⟨by omega,?_⟩;refine aa.loop (ι:=List Nat × Nat × Nat)
  (λ⟨o,i,c⟩=>⟨44,[(0,.ro (p.map u32)),(1,.ro (q.map u32)),(5,.view 0 0 p.length),(6,.val (.int .u64 c)),(13,.val (.int .i64 p.length)),(14,.val (.int .i64 i))],[some ⟨1,o.map u32,false⟩]⟩)
  (λ⟨o,i,c⟩=>o.length=p.length∧i<=p.length∧c<=1∧(∀d∈o,d<4294967296) ∧
   val 4294967296 (o.take i)+4294967296^i*val 4294967296 (p.drop i)=T+4294967296^i*(c+val 4294967296 (q.drop i)))
  (λ⟨o,i,c⟩=>p.length - i) (asr p.length 0,0,0) ?_ ?_ ?_
 ·simp[val,hT]
 ·simp[aR,hC]
 ·rintro⟨o,i,c⟩ ⟨h1,h2,h3,h4,h5⟩;have bp:=dT hp (by omega) i;have bq:=dT hq (by omega) i;by_cases aP:i<p.length
  ·have key:∀u c',dg p i+4294967296*c'=u+dg q i+c->val 4294967296 ((o.set i u).take (i+1))+4294967296^(i+1)*val 4294967296 (p.drop (i+1))=T+4294967296^(i+1)*(c'+val 4294967296 (q.drop (i+1))):=by
    intro u c' e;rw[du _ (by omega),cU,auf,auh (by omega),atL];rw[dm _ p i,dm _ q i]at h5;simpa[val]using xF h5 e
   obtain⟨u,c',hu,ap,e0,e1,e2⟩:∃u c':Nat,u<4294967296∧c'<=1∧dg p i+4294967296*c'=u+dg q i+c∧((dg p i:Int) - c - dg q i) % 18446744073709551616 / 9223372036854775808=c'∧((dg p i:Int) - c - dg q i) % 4294967296=u:=by
    rcases as2 (dg p i) (dg q i+c)with h | h
    ·exact⟨dg p i+4294967296 - dg q i - c,1,by omega,by omega,by omega,by omega,by omega⟩
    ·exact⟨dg p i - dg q i - c,0,by omega,by omega,by omega,by omega,by omega⟩
   have F:=kd i h4 hu;by_cases ae:i<q.length
   ·simp(disch:=omega)[aP,ae,aK,bB,ix,Eu,e1,e2];exact⟨by omega,o.set i u,i+1,c',⟨by simpa using h1,by omega,by omega,F,key u c' e0⟩,by omega,by simp[aR,hC,lS]⟩
   ·have:=jC (l:=q) (i:=i) (by omega);rw[this]at e1 e2;simp at e1 e2;simp(disch:=omega)[aP,ae,aK,bB,ix,Eu,e1,e2];exact⟨by omega,o.set i u,i+1,c',⟨by simpa using h1,by omega,by omega,F,key u c' e0⟩,by omega,by simp[aR,hC,lS]⟩
  ·have hi:i=p.length:=by omega
   subst hi;simp(disch:=omega)[];have e1:p.drop p.length=[]:=aub (by omega);have e2:q.drop p.length=[]:=aub (by omega);have e3:o.take p.length=o:=aud (by omega);have h6:=lP o h4;rw[e1,e2,e3]at h5;rw[h1]at h6;have h7:val 4294967296 o=T:=by
    rcases Nat.le_one_iff_eq_zero_or_eq_one.1 h3 with rfl | rfl
    ·simpa[val]using h5
    ·simp[val]at h5;omega
   exact⟨_,by simp[aud,h1],o,rfl,h4,h7,by omega⟩
end Go.Proofs
namespace Go.Proofs
open Go.Sv Go Go.Pl
def fit(x:Int):Prop:=wid 4294967296 x.natAbs<=1000000000000
theorem rZ(x y:Int)(hm:fit x)(hn:fit y) :
  aG awW 107 [cR x,cR y] (cR (x+y)):=by
 refine aj Tryz.func107 rfl (by simp) (λC hC=>?_);have B2:2<=4294967296:=by omega
 have vx:=ct B2 x.natAbs;have vy:=ct B2 y.natAbs;have lx:=cV B2 x.natAbs;have ly:=cV B2 y.natAbs;have aQ:=hm;have aS:=hn;simp only[fit,wid]at aQ aS;by_cases hs:(x<0↔y<0)
 ·simp[cR,hs];refine aa.asj (.qs [0,1,2,3,4,5]<|.l 6 []<|.l 7 []<|.l 8 [2]<|.nil) ?_;simp;refine yR (O4 _ _ lx ly (by omega) (by omega)) (by simp) ?_;rintro _ ⟨l,rfl,h1,h2,h3⟩;simp;have e:(if decide (y<0)=true then -(val 4294967296 l:Int) else(val 4294967296 l:Int))=x+y:=by
   rw[h2,vx,vy];split<;>simp_all<;>omega
  have ac:=kD (decide (y<0)) l (by omega) h1;rw[e]at ac;refine bg ac (by simp) ?_;simp[cR]
 ·have hc:=sf _ _ (show wid 4294967296 x.natAbs<=4398046511104 by simp only[wid];omega) (show wid 4294967296 y.natAbs<=4398046511104 by simp only[wid];omega);have hle:∀{m n:Nat},m<=n->(bO 4294967296 m).length<=(bO 4294967296 n).length:=λh=>cq B2 h;rcases as2 x.natAbs y.natAbs with h | h
  ·have e0:dW x.natAbs y.natAbs = -1:=by simp[dW,h]
   rw[e0]at hc;have aq:=DF _ _ ly lx (by omega) (hle (by omega)) (y.natAbs - x.natAbs) (by rw[vx,vy];omega);simp[cR,hs];refine bg hc (by simp) ?_;simp;refine aa.asj (.qs [0,1,2,3,4,5]<|.l 6 []<|.l 7 []<|.l 8 [2]<|.nil) ?_;simp;refine yR aq (by simp) ?_;rintro _ ⟨l,rfl,h1,h2,h3⟩;simp;have e:(if decide (y<0)=true then -(val 4294967296 l:Int) else(val 4294967296 l:Int))=x+y:=by rw[h2];split<;>simp_all<;>omega
   have ac:=kD (decide (y<0)) l (by omega) h1;rw[e]at ac;refine bg ac (by simp) ?_;simp[cR]
  ·have e0:dW x.natAbs y.natAbs=if y.natAbs<x.natAbs then 1 else 0:=by simp[dW];omega
   rw[e0]at hc;have aq:=DF _ _ lx ly (by omega) (hle (by omega)) (x.natAbs - y.natAbs) (by rw[vx,vy];omega);simp[cR,hs];refine bg hc (by simp) ?_;have e1:¬(if y.natAbs<x.natAbs then(1:Int) else 0)<0:=by split<;>omega
   simp[e1];refine aa.asj (.qs [0,1,2,3,4,5]<|.l 6 []<|.l 7 []<|.l 8 [2]<|.nil) ?_;simp;refine yR aq (by simp) ?_;rintro _ ⟨l,rfl,h1,h2,h3⟩;simp;have e:(if decide (x<0)=true then -(val 4294967296 l:Int) else(val 4294967296 l:Int))=x+y:=by rw[h2];split<;>simp_all<;>omega
   have ac:=kD (decide (x<0)) l (by omega) h1;rw[e]at ac;refine bg ac (by simp) ?_;simp[cR]
theorem wU{x:Int}:fit (-x)↔fit x:=by simp[fit]
theorem Lb(x y:Int)(hm:fit x)(hn:fit y) :
  aG awW 135 [cR x,cR y] (cR (x - y)):=by
 refine aj Tryz.func135 rfl (by simp) (λC hC=>?_);simp;refine aa.asj (.qs [0,1]<|.l 2 []<|.l 3 []<|.l 4 [2]<|.nil) ?_;simp;refine bg (yk y) (by simp) ?_;simp;refine bg (rZ x (-y) hm (wU.2 hn)) (by simp) ?_;simp[Int.sub_eq_add_neg]
end Go.Proofs
namespace Go.Proofs
open Go.Sv Go Go.Pl
theorem IF(x y:Int):(if(decide (x<0) != decide (y<0))=true then -((x.natAbs*y.natAbs:Nat):Int) else((x.natAbs*y.natAbs:Nat):Int))=x*y:=by
 rw[auv];by_cases h1:x<0<;>by_cases h2:y<0
 ·have e1:(x.natAbs:Int) = -x:=by omega
  have e2:(y.natAbs:Int) = -y:=by omega
  simp[h1,h2,e1,e2,auw,auy]
 ·have e1:(x.natAbs:Int) = -x:=by omega
  have e2:(y.natAbs:Int)=y:=by omega
  simp[h1,h2,e1,e2,auw]
 ·have e1:(x.natAbs:Int)=x:=by omega
  have e2:(y.natAbs:Int) = -y:=by omega
  simp[h1,h2,e1,e2,auy]
 ·have e1:(x.natAbs:Int)=x:=by omega
  have e2:(y.natAbs:Int)=y:=by omega
  simp[h1,h2,e1,e2]
theorem je(x y:Int)(hm:fit x)(hn:fit y) :
  aG awW 93 [cR x,cR y] (cR (x*y)):=by
 refine aj Tryz.func93 rfl (by simp) (λC hC=>?_);have B2:2<=4294967296:=by omega
 have vx:=ct B2 x.natAbs;have vy:=ct B2 y.natAbs;have lx:=cV B2 x.natAbs;have ly:=cV B2 y.natAbs;have aT:(if(decide (x<0) != decide (y<0))=true then -((x.natAbs*y.natAbs:Nat):Int) else((x.natAbs*y.natAbs:Nat):Int))=x*y:=IF x y;simp only[fit,wid]at hm hn;simp[cR];generalize bO 4294967296 x.natAbs=a at *;generalize bO 4294967296 y.natAbs=b at *;simp(disch:=omega)[aK];refine⟨by omega,?_⟩;refine aa.loop (ι:=List Nat × Nat)
  (λ⟨o,i⟩=>⟨78,[(2,.ptr 0 0 0),(3,.ptr 1 0 0),(4,.ptr 2 0 0),(5,.view 3 0 (a.length+b.length)),(21,.ro (a.map u32)),(22,.val (.int .i64 a.length)),(23,.val (.int .i64 i))],
   [some ⟨2,[.agg [.val (.bool (decide (x<0))),.ro (a.map u32)]],false⟩,some ⟨2,[.agg [.val (.bool (decide (y<0))),.ro (b.map u32)]],false⟩,some ⟨2,[.agg [.val (.bool false),.val (.slice none 0 0)]],false⟩,some ⟨1,o.map u32,false⟩]⟩)
  (λ⟨o,i⟩=>o.length=a.length+b.length∧i<=a.length∧(∀d∈o,d<4294967296)∧val 4294967296 (o.take (i+b.length))=val 4294967296 (a.take i)*val 4294967296 b)
  (λ⟨o,i⟩=>a.length - i) (asr (a.length+b.length) 0,0) ?_ ?_ ?_
 ·refine⟨by simp,by omega,by simp,?_⟩;simp[BQ];simp[val]
 ·simp[aR,hC]
 ·rintro⟨o,i⟩ ⟨h1,h2,h3,h4⟩;by_cases aP:i<a.length
  ·simp(disch:=omega)[aP,bB];have bx:=dT lx (by omega) i;refine aa.loop (ι:=List Nat × Nat × Nat)
    (λ⟨o',j,c⟩=>⟨78,[(2,.ptr 0 0 0),(3,.ptr 1 0 0),(4,.ptr 2 0 0),(5,.view 3 0 (a.length+b.length)),(6,.val (.int .i64 i)),(7,.val (.int .u32 (dg a i))),(8,.val (.int .u64 c)),(21,.ro (a.map u32)),(22,.val (.int .i64 a.length)),(23,.val (.int .i64 i)),
      (29,.ro (b.map u32)),(30,.val (.int .i64 b.length)),(31,.val (.int .i64 j))],
     [some ⟨2,[.agg [.val (.bool (decide (x<0))),.ro (a.map u32)]],false⟩,some ⟨2,[.agg [.val (.bool (decide (y<0))),.ro (b.map u32)]],false⟩,some ⟨2,[.agg [.val (.bool false),.val (.slice none 0 0)]],false⟩,some ⟨1,o'.map u32,false⟩]⟩)
    (λ⟨o',j,c⟩=>o'.length=a.length+b.length∧j<=b.length∧c<4294967296∧(∀d∈o',d<4294967296)∧o'.drop (i+j)=o.drop (i+j) ∧
     val 4294967296 (o'.take (i+j))+4294967296^i*4294967296^j*c=val 4294967296 (o.take (i+j))+4294967296^i*(dg a i*val 4294967296 (b.take j)))
    (λ⟨o',j,c⟩=>b.length - j) (o,0,0) ?_ ?_ ?_
   ·exact⟨h1,by omega,by omega,h3,rfl,by simp[val]⟩
   ·simp[aR,hC]
   ·rintro⟨o',j,c⟩ ⟨g1,g2,g3,g4,g5,g6⟩;by_cases aU:j<b.length
    ·have bo:=dT g4 (by omega) (i+j);have by_:=dT ly (by omega) j;obtain⟨t,ht⟩:∃t,t=dg a i*dg b j+dg o' (i+j)+c:=⟨_,rfl⟩;have ba:dg a i*dg b j<=4294967295*4294967295:=aus (by omega) (by omega);have aW:(dg a i:Int)*dg b j<=18446744065119617025:=by rw[<-auv];omega
     have aY:(0:Int)<=(dg a i:Int)*dg b j:=by rw[<-auv];omega
     have F:=kd (i+j) g4 (asW t (show 0<4294967296 by omega));have K:val 4294967296 ((o'.set (i+j) (t % 4294967296)).take (i+(j+1)))+4294967296^i*4294967296^(j+1)*(t / 4294967296)=val 4294967296 (o.take (i+(j+1)))+4294967296^i*(dg a i*val 4294967296 (b.take (j+1))):=by rw[<-asM,du _ (by omega),cU,auf,auh (by omega),lB _ o _ (by omega),lB _ b _ (by omega)];simp only[val,aut,as3,atL,aul];rw[ue g5]at ht;have e:=atK t 4294967296;have:=J6 g6 (show dg a i*dg b j+dg o (i+j)+c=t % 4294967296+4294967296*(t / 4294967296) by omega);simpa[atP]using this
     simp(disch:=omega)[aU,aK,bB,ix,ig];refine⟨by omega,by omega,by omega,by omega,o'.set (i+j) (t % 4294967296),j+1,t / 4294967296,⟨by simpa using g1,by omega,by omega,F,?_,K⟩,by omega,?_⟩
     ·rw[<-asM,fj];exact jg g5
     ·subst ht;simp[aR,hC,ec]
    ·obtain rfl:j=b.length:=by omega
     simp(disch:=omega)[aK,bB,ix];have e:(c:Int) % 4294967296=c:=by omega
     have tb:b.take b.length=b:=aug;refine⟨by omega,by omega,o'.set (i+b.length) c,i+1,⟨by simpa using g1,by omega,kd _ g4 g3,?_⟩,by omega,by simp[aR,hC,ec,e]⟩;rw[show i+1+b.length=i+b.length+1 by omega,du _ (by omega),cU,auf,auh (by omega),lB _ a _ (by omega),aul];rw[tb,h4]at g6;simp only[val,aut,as3];rw[g6];grind
  ·obtain rfl:i=a.length:=by omega
   simp(disch:=omega)[];have e1:a.take a.length=a:=aug;have e2:o.take (a.length+b.length)=o:=aud (by omega);rw[e1,e2,vx,vy]at h4;have ac:=kD (decide (x<0) != decide (y<0)) o (by omega) h3;rw[h4,aT]at ac;refine bg ac (by simp[aud,h1,bne]) ?_;simp[cR]
end Go.Proofs
namespace Go.Proofs
open Go.Sv Go Go.Pl
theorem H7(m:List Nat)(hm:∀d∈m,d<4294967296)(hl:m.length<=2) :
  aG awW 187 [.ro (m.map u32)] (.val (.int .u64 (val 4294967296 m))):=by
 refine aj Tryz.func187 rfl (by simp) (λC hC=>?_);simp(disch:=omega)[aK];refine aa.loop (ι:=Nat)
  (λi=>⟨21,[(0,.ro (m.map u32)),(3,.val (.int .u64 (val 4294967296 (m.drop i)))),(4,.val (.int .i64 ((i:Int) - 1)))],[]⟩)
  (λi=>i<=m.length)
  (λi=>i) m.length ?_ ?_ ?_
 ·simp
 ·simp[aR,hC,val]
 ·rintro i hi;cases i with
  | zero=>simp
  | succ i =>
   have hv:=lP (m.drop (i+1)) (λd hd=>hm d (List.mem_of_mem_drop hd));have hlen:(m.drop (i+1)).length<=1:=by simp;omega
   have bb:val 4294967296 (m.drop (i+1))<4294967296:=Nat.lt_of_lt_of_le hv (atS (by omega) hlen);have bd:=dT hm (by omega) i;simp(disch:=omega)[aK,ig,bB,l7];refine⟨by omega,i,by omega,by omega,?_⟩;have:=dm 4294967296 m i;simp[aR,hC,this];omega
end Go.Proofs
namespace Go.Proofs
open Go.Sv Go Go.Pl
theorem Kk{C:Ctx}{M:aD}{k:Nat}{W:Option (List Nat)}{K:aD->List Nat->SV->Prop}(l:List Nat)(r:List SV)(hk:aA M k=some ⟨1,l.map u32++r,false⟩)(hl:l.length<=4398046511104)
  (hW:∀ks,W=some ks->∀i e,aA M i=some e->i∈ks) (hK:K M [] (.view k 0 (cC l).length)):dN awW C 147 [.view k 0 l.length] M W K:=by
 refine dV axk rfl (by simp) [] (by simp) (λks h=>⟨rfl,hW ks h⟩) (λC' hC=>?_);simp;refine aa.loop (ι:=List Nat) (λl'=>⟨21,[(0,.view k 0 l'.length)],M⟩) (λl'=>l' <+: l∧cC l'=cC l) (λl=>l.length) l ?_ ?_ ?_
 ·simp
 ·simp[aR]
 ·rintro l' ⟨hp,ht⟩;obtain⟨t,rfl⟩:=hp;rcases rR l' with rfl | ⟨zs,z,rfl⟩
  ·rw[<-ht]at hK;simpa[cC]using hK
  ·simp at hl;rw[<-ht]at hK;simp(disch:=omega)[aK,hk];refine⟨by omega,λhz=>⟨by omega,zs,⟨⟨z::t,by simp⟩,?_⟩,by omega,by simp[aR]⟩,λhz=>?_⟩
   ·rw[hz,oA]at ht;rw[ht,hz];simp
   ·rw[rO _ hz]at hK;simpa using hK
theorem yO{C:Ctx}{M:aD}{k:Nat}{W:Option (List Nat)}{K:aD->List Nat->SV->Prop}(l:List Nat)(r:List SV)(ab:Nat)(hk:aA M k=some ⟨1,l.map u32++r,false⟩)(hl:l.length<=4398046511104)
  (hd:∀d∈l,d<4294967296) (hb:0<ab∧ab<4294967296)
  (hW:∀ks,W=some ks->∀i e,aA M i=some e->i∈ks)
  (hK:∀q,(∀d∈q,d<4294967296)->q.length=l.length->val 4294967296 q=val 4294967296 l / ab->K (aX M k (some ⟨1,q.map u32++r,false⟩)) [] (.bP [.view k 0 (cC q).length,.val (.int .u32 ((val 4294967296 l % ab:Nat):Int))])) :
  dN awW C 106 [.view k 0 l.length,.val (.int .u32 ab)] M W K:=by
 refine dV Tryz.func106 rfl (by simp) [] (by simp) (λks h=>⟨rfl,hW ks h⟩) (λC' hC=>?_);simp(disch:=omega)[aK];refine aa.loop (ι:=List Nat × Nat × List Nat × Nat) (λ⟨lo,i,hi,rest⟩=>⟨40,[(0,.view k 0 l.length),(1,.val (.int .u32 ab)),(6,.val (.int .u64 rest)),(7,.val (.int .i64 ((i:Int) - 1)))],aX M k (some ⟨1,(lo++hi).map u32++r,false⟩)⟩)
  (λ⟨lo,i,hi,rest⟩=>lo.length=i∧i+hi.length=l.length∧(∀d∈lo,d<4294967296)∧(∀d∈hi,d<4294967296)∧rest<ab∧val 4294967296 l=(val 4294967296 lo+4294967296^i*rest)+ab*(4294967296^i*val 4294967296 hi))
  (λ⟨lo,i,hi,rest⟩=>i) (l,l.length,[],0) ?_ ?_ ?_
 ·simpa[val]using⟨hd,hb.1⟩
 ·simp[aR,mN hk]
 ·rintro⟨lo,i,hi,rest⟩ ⟨h1,h2,h3,h4,h5,h6⟩;cases i with
  | zero =>
   have aZ:=List.length_eq_zero_iff.1 h1;subst aZ;simp[val]at h6;have hq:val 4294967296 hi=val 4294967296 l / ab:=by rw[h6,aun _ _ hb.1,auo h5];omega
   have hr:rest=val 4294967296 l % ab:=by rw[h6,aup,auq h5]
   have aC:hi.length=l.length:=by omega
   simp;rw[<-aC];refine Kk hi r (ia _ hk) (by omega) (by simp) ?_;have e:(rest:Int) % 4294967296=rest:=by omega
   simp[ix,e];have:=hK hi h4 aC hq;rw[hr];simpa using this
  | succ i =>
   rcases rR lo with rfl | ⟨lo,x,rfl⟩
   ·simp at h1
   ·simp at h1;subst h1;have hx:=h3 x (by simp);obtain⟨X,hX⟩:∃X,X=rest*4294967296+x:=⟨_,rfl⟩;have hq:X / ab<4294967296:=by
     rw[aum hb.1,hX,Nat.mul_comm];have:(rest+1)*4294967296<=ab*4294967296:=asK _ h5;omega
    have e1:((rest:Int)*4294967296+x) / ab=((X / ab:Nat):Int):=by rw[hX];simp
    have e2:((rest:Int)*4294967296+x) % ab=((X % ab:Nat):Int):=by rw[hX];simp
    have hr:X % ab<ab:=asW _ hb.1;have e0:rest*4294967296+x=ab*(X / ab)+X % ab:=by rw[<-hX];exact(Nat.div_add_mod X ab).symm
    generalize X / ab=q at *;generalize X % ab=rr at *;simp(disch:=omega)[aK,ig,ia _ hk,l7,ix,Int.tdiv_eq_ediv_of_nonneg,Int.tmod_eq_emod_of_nonneg,e1,e2];have e3:(q:Int) % 4294967296=q:=by omega
    refine⟨by omega,by omega,by omega,by omega,lo,lo.length,q::hi,rr,⟨rfl,by simp;omega,λd hd=>h3 d (by simp[hd]),Qj h4 hq,hr,?_⟩,by omega,by simp[aR,e3]⟩;rw[cU,atL]at h6;simp only[val,aut,as3]at h6;exact Gg h6 e0
end Go.Proofs
namespace Go.Proofs
open Go.Sv Go Go.Pl
theorem A7{C:Ctx}{M:aD}{K:aD->List Nat->SV->Prop}(m:List Nat)(b s:Nat){s':Int}(ao:s'=s)(hm:∀d∈m,d<4294967296)(hb:b<32)(hl:m.length<=s)(hs:s<=4398046511104)(hv:val 4294967296 m*2^b<4294967296^s)
  (hK:∀o,o.length=s->(∀d∈o,d<4294967296)->val 4294967296 o=val 4294967296 m*2^b->K (M++[some ⟨1,o.map u32,false⟩]) [] (.view M.length 0 s)) :
  dN awW C 188 [.ro (m.map u32),.val (.int .u64 b),.val (.int .i64 s')] M none K:=by
 subst ao;refine dV Tryz.func188 rfl (by simp) [] (by simp) (by simp) (λC' hC=>?_);simp(disch:=omega)[];refine⟨by omega,?_⟩;refine aa.loop (ι:=List Nat × Nat) (λ⟨o,i⟩=>⟨44,[(0,.ro (m.map u32)),(1,.val (.int .u64 b)),(7,.view M.length 0 s),(13,.ro (m.map u32)),(14,.val (.int .i64 m.length)),(15,.val (.int .i64 i))],M++[some ⟨1,o.map u32,false⟩]⟩)
  (λ⟨o,i⟩=>o.length=s∧i<=m.length∧(∀d∈o,d<4294967296)∧val 4294967296 (o.take (i+1))=val 4294967296 (m.take i)*2^b∧dg o i<2^b∧∀j,i<j->dg o j=0)
  (λ⟨o,i⟩=>m.length - i) (asr s 0,0) ?_ ?_ ?_
 ·refine⟨by simp,by omega,by simp,by simp[BQ];simp[val],?_,λj _=>KG _ _⟩;rw[KG];exact auk b
 ·simp[aR,hC]
 ·rintro⟨o,i⟩ ⟨h1,h2,h3,h4,h5,h6⟩;by_cases aP:i<m.length
  ·have bm:=dT hm (by omega) i;have bo:=dT h3 (by omega) i;have hp:(2:Nat)^b<=2147483648:=atS (by omega) (show b<=31 by omega);obtain⟨z,hz⟩:∃z,z=dg m i % 2^(32 - b):=⟨_,rfl⟩;obtain⟨w,hw⟩:∃w,w=2^b*dg m i:=⟨_,rfl⟩;have hB:4294967296=2^b*2^(32 - b):=by rw[<-aul,show b+(32 - b)=32 by omega]
   have aE:w % 4294967296=2^b*z:=by
    rw[hw,hz];conv=>lhs;rhs;rw[hB]
    exact Nat.mul_mod_mul_left _ _ _
   have ar:z+1<=2^(32 - b):=by rw[hz];exact asW _ (auk _)
   have al:dg o i+2^b*z<4294967296:=by have:=atQ (2^b) ar;rw[<-hB,Nat.mul_add,Nat.mul_one]at this;omega
   have a0:w / 4294967296<2^b:=by rw[aum (by omega),hw];exact aur bm (auk b)
   have a1:w<18446744073709551616:=by
    have:w<=2147483648*4294967295:=by rw[hw];exact aus hp (by omega)
    omega
   have e1:awR.wrap ((dg m i:Int)*2^b)=w:=by
    have:(dg m i:Int)*2^b=w:=by rw[hw];push_cast;exact auz _ _
    rw[this,ig];omega
   have e2:uz .or .u32 (dg o i:Int) ((w:Int) % 4294967296)=((dg o i+2^b*z:Nat):Int):=Kh _ _ _ _ b rfl (by rw[<-aE];rfl) h5 al
   -- what a step brings
   have af:val 4294967296 ((o.set i (dg o i+2^b*z)).take (i+1))+4294967296^(i+1)*(w / 4294967296)=val 4294967296 (m.take (i+1))*2^b:=by rw[du _ (by omega),cU,auf,auh (by omega),lB _ m _ h2];rw[lB _ o i (by omega)]at h4;have:=atK w 4294967296;rw[aE]at this;simp only[val,aut,as3,atL];grind
   have e3:(w:Int) / 4294967296=((w / 4294967296:Nat):Int):=by simp
   generalize w / 4294967296=h at *;generalize dg o i+2^b*z=y at *;have e4:(h:Int) % 4294967296=h:=by omega
   have F:=kd i h3 al;by_cases hh:0<h
   ·have bc:i+1<s:=by
     rcases as2 (i+1) s with h | h
     ·exact h
     ·exfalso;have:s=i+1:=by omega
      subst this;have h7:val 4294967296 (m.take (i+1))=val 4294967296 m:=by rw[aud (by omega)]
      rw[h7]at af;have:=atQ (4294967296^(i+1)) hh;omega
    have an:i+1<(o.set i y).length:=by simp;omega
    simp(disch:=omega)[aK,bB,aP,ig,ix,e1,e2,e3,e4,lS, -aue,hh];refine⟨by omega,by omega,by omega,by omega,by omega,by omega,(o.set i y).set (i+1) h,i+1,⟨by simpa using h1,by omega,kd _ F (by omega),?_,?_,?_⟩,by omega,?_⟩
    ·rw[du _ an,cU,auf,auh (Nat.le_of_lt an)];simpa[val]using af
    ·rw[nH _ an,if_pos rfl];exact a0
    ·intro j hj;rw[nH _ an,if_neg (by omega),nH _ (by omega),if_neg (by omega)];exact h6 j (by omega)
    ·simp[aR,hC]
   ·obtain rfl:h=0:=by omega
    simp(disch:=omega)[aK,bB,aP,ig,ix,e1,e2,e3,lS, -aue];refine⟨by omega,by omega,by omega,by omega,o.set i y,i+1,⟨by simpa using h1,by omega,F,?_,?_,?_⟩,by omega,?_⟩
    ·rw[lB _ _ _ (by simp;omega),nH _ (by omega),if_neg (by omega),h6 _ (by omega)];simpa using af
    ·rw[nH _ (by omega),if_neg (by omega),h6 _ (by omega)];exact auk b
    ·intro j hj;rw[nH _ (by omega),if_neg (by omega)];exact h6 j (by omega)
    ·simp[aR,hC]
  ·obtain rfl:i=m.length:=by omega
   simp(disch:=omega)[];have e5:m.take m.length=m:=aug;rw[e5]at h4;have e6:val 4294967296 (o.take (m.length+1))=val 4294967296 o:=by
    rcases as2 m.length s with h | h
    ·rw[<-List.take_append_drop (m.length+1) o,cU];have:val 4294967296 (o.drop (m.length+1))=0:=by
      refine val_zero _ _ λd hd=>?_;obtain⟨j,hj,rfl⟩:=List.getElem_of_mem hd;have:=h6 (m.length+1+j) (by omega);simp only[List.length_drop]at hj;unfold dg at this;rw[mg (by omega)]at this;rw[List.getElem_drop];exact this
     rw[this];simp
    ·rw[aud (by omega)]
   exact hK o h1 h3 (by omega)
end Go.Proofs
namespace Go.Proofs
open Go.Sv Go Go.Pl
theorem zS{C:Ctx}{M:aD}{k k2 i0 nu nv:Nat}{K:aD->List Nat->SV->Prop}(A R:List SV)(us vs:List Nat)(g:Nat)(hk:aA M k=some ⟨1,A++(us.map u32++R),false⟩)(au:aA M k2=some ⟨1,vs.map u32,false⟩)(ak:k2≠k)(hi:i0=A.length)(av:nu=us.length)(aw:nv=vs.length)
  (hu:∀d∈us,d<4294967296) (hv:∀d∈vs,d<4294967296) (hg:g<4294967296) (hl:vs.length<us.length) (hs:us.length<=4398046511104)
  (hK:∀o b,o.length=us.length->(∀d∈o,d<4294967296)->b<=1->val 4294967296 us+4294967296^us.length*b=val 4294967296 o+g*val 4294967296 vs->K (aX M k (some ⟨1,A++(o.map u32++R),false⟩)) [] (.val (.bool (decide (0<b))))) :
  dN awW C 189 [.view k i0 nu,.view k2 0 nv,.val (.int .u64 g)] M none K:=by
 subst hi av aw;refine dV Tryz.func189 rfl (by simp) [] (by simp) (by simp) (λC' hC=>?_);simp(disch:=omega)[];refine aa.loop (ι:=List Nat × Nat × Nat × Nat) (λ⟨o,i,c,b⟩=>⟨51,[(0,.view k A.length us.length),(1,.view k2 0 vs.length),(2,.val (.int .u64 g)),(7,.val (.int .u64 c)),(8,.val (.int .u64 b)),(12,.val (.int .i64 us.length)),(13,.val (.int .i64 i))],aX M k (some ⟨1,A++(o.map u32++R),false⟩)⟩)
  (λ⟨o,i,c,b⟩=>o.length=us.length∧i<=us.length∧(∀d∈o,d<4294967296)∧c<4294967296∧b<=1∧(vs.length<i->c=0)∧o.drop i=us.drop i ∧
   val 4294967296 (us.take i)+4294967296^i*(c+b)=val 4294967296 (o.take i)+g*val 4294967296 (vs.take i))
  (λ⟨o,i,c,b⟩=>us.length - i) (us,0,0,0) ?_ ?_ ?_
 ·exact⟨rfl,by omega,hu,by omega,by omega,λ_=>rfl,rfl,by simp[val]⟩
 ·simp[aR,hC,mN hk]
 ·rintro⟨o,i,c,b⟩ ⟨h1,h2,h3,h4,h5,h6,h7,h8⟩;have ah:=ia (M:=M) (k:=k) ⟨1,A++(o.map u32++R),false⟩ hk;have ad:aA (aX M k (some ⟨1,A++(o.map u32++R),false⟩)) k2=some ⟨1,vs.map u32,false⟩:=by rw[yM _ hk ak];exact au
  by_cases aP:i<us.length
  ·have bo:=dT h3 (by omega) i;have bv:=dT hv (by omega) i;have ho:dg o i=dg us i:=ue h7;obtain⟨t,ht⟩:∃t,t=c+g*dg vs i:=⟨_,rfl⟩;have be:g*dg vs i<=4294967295*4294967295:=aus (by omega) (by omega);have a2:(g:Int)*dg vs i<=18446744065119617025:=by rw[<-auv];omega
   have a3:(0:Int)<=(g:Int)*dg vs i:=by rw[<-auv];omega
   have e1:(c:Int)+g*dg vs i=t:=by rw[ht];push_cast;rfl
   obtain⟨c',ap⟩:∃c',c'=t / 4294967296:=⟨_,rfl⟩;obtain⟨lo,a4⟩:∃lo,lo=t % 4294967296:=⟨_,rfl⟩;have e2:(t:Int) % 4294967296=lo:=by omega
   have e3:(t:Int) / 4294967296=c':=by omega
   obtain⟨u,b',a5,aF,e0,e4,e5⟩:∃u b':Nat,u<4294967296∧b'<=1∧dg o i+4294967296*b'=u+lo+b∧((dg o i:Int) - lo - b) % 18446744073709551616 / 9223372036854775808=b'∧((dg o i:Int) - lo - b) % 4294967296=u:=by
    rcases as2 (dg o i) (lo+b)with h | h
    ·exact⟨dg o i+4294967296 - lo - b,1,by omega,by omega,by omega,by omega,by omega⟩
    ·exact⟨dg o i - lo - b,0,by omega,by omega,by omega,by omega,by omega⟩
   have aH:vs.length<i+1->c'=0:=by intro h;rw[jC (by omega)]at ht;rw[ap,ht];simp;omega
   have F:=kd i h3 a5;have G:val 4294967296 (us.take (i+1))+4294967296^(i+1)*(c'+b')=val 4294967296 ((o.set i u).take (i+1))+g*val 4294967296 (vs.take (i+1)):=by rw[dr,dr _ vs,du _ (by omega),cU,auf,auh (by omega),atL];simp only[val,aut,as3];exact Jy h8 (by rw[<-ho];omega)
   have D:(o.set i u).drop (i+1)=us.drop (i+1):=by rw[fj];exact jg h7
   have am:lo<4294967296:=by omega
   by_cases ai:i<vs.length
   ·simp(disch:=omega)[aK,ig,aP,ai,ah,ad,bB,ix,sT,uf,e1,Ed,e2,e3,Eu,e4,e5, -aue];repeat refine auA (by omega) ?_
    refine⟨o.set i u,i+1,c',b',⟨by simpa using h1,by omega,F,by omega,aF,aH,D,G⟩,by omega,by simp[aR,hC]⟩
   ·have ax:dg vs i=0:=jC (by omega);have a6:t=c:=by rw[ht,ax];simp
    subst a6;simp(disch:=omega)[aK,ig,aP,ai,ah,ix,sT,uf,Ed,e2,e3,Eu,e4,e5, -aue];repeat refine auA (by omega) ?_
    refine⟨o.set i u,i+1,c',b',⟨by simpa using h1,by omega,F,by omega,aF,aH,D,G⟩,by omega,by simp[aR,hC]⟩
  ·obtain rfl:i=us.length:=by omega
   simp(disch:=omega)[];have:=hK o b h1 h3 h5 (by rw[aug,aud (show o.length<=us.length by omega),aud (show vs.length<=us.length by omega),h6 hl]at h8;simpa using h8)
   exact this
theorem z9{C:Ctx}{M:aD}{k k2 i0 nu nv:Nat}{K:aD->List Nat->SV->Prop}(A R:List SV)(us vs:List Nat)(hk:aA M k=some ⟨1,A++(us.map u32++R),false⟩)(au:aA M k2=some ⟨1,vs.map u32,false⟩)(ak:k2≠k)(hi:i0=A.length)(av:nu=us.length)(aw:nv=vs.length)
  (hu:∀d∈us,d<4294967296) (hv:∀d∈vs,d<4294967296) (hl:vs.length<us.length) (hs:us.length<=4398046511104)
  (hK:∀o c,o.length=us.length->(∀d∈o,d<4294967296)->val 4294967296 us+val 4294967296 vs=val 4294967296 o+4294967296^us.length*c->K (aX M k (some ⟨1,A++(o.map u32++R),false⟩)) [] (.bP [])) :
  dN awW C 190 [.view k i0 nu,.view k2 0 nv] M none K:=by
 subst hi av aw;refine dV Tryz.func190 rfl (by simp) [] (by simp) (by simp) (λC' hC=>?_);simp(disch:=omega)[];refine aa.loop (ι:=List Nat × Nat × Nat) (λ⟨o,i,c⟩=>⟨38,[(0,.view k A.length us.length),(1,.view k2 0 vs.length),(4,.val (.int .u64 c)),(8,.val (.int .i64 us.length)),(9,.val (.int .i64 i))],aX M k (some ⟨1,A++(o.map u32++R),false⟩)⟩)
  (λ⟨o,i,c⟩=>o.length=us.length∧i<=us.length∧(∀d∈o,d<4294967296)∧c<=1∧o.drop i=us.drop i ∧
   val 4294967296 (us.take i)+val 4294967296 (vs.take i)=val 4294967296 (o.take i)+4294967296^i*c)
  (λ⟨o,i,c⟩=>us.length - i) (us,0,0) ?_ ?_ ?_
 ·exact⟨rfl,by omega,hu,by omega,rfl,by simp[val]⟩
 ·simp[aR,hC,mN hk]
 ·rintro⟨o,i,c⟩ ⟨h1,h2,h3,h4,h7,h8⟩;have ah:=ia (M:=M) (k:=k) ⟨1,A++(o.map u32++R),false⟩ hk;have ad:aA (aX M k (some ⟨1,A++(o.map u32++R),false⟩)) k2=some ⟨1,vs.map u32,false⟩:=by rw[yM _ hk ak];exact au
  by_cases aP:i<us.length
  ·have bo:=dT h3 (by omega) i;have bv:=dT hv (by omega) i;have ho:dg o i=dg us i:=ue h7;obtain⟨t,ht⟩:∃t,t=dg o i+c+dg vs i:=⟨_,rfl⟩;have e1:(dg o i:Int)+c+dg vs i=t:=by rw[ht];push_cast;rfl
   obtain⟨c',ap⟩:∃c',c'=t / 4294967296:=⟨_,rfl⟩;obtain⟨lo,a4⟩:∃lo,lo=t % 4294967296:=⟨_,rfl⟩;have e2:(t:Int) % 4294967296=lo:=by omega
   have e3:(t:Int) / 4294967296=c':=by omega
   have am:lo<4294967296:=by omega
   have F:=kd i h3 am;have G:val 4294967296 (us.take (i+1))+val 4294967296 (vs.take (i+1))=val 4294967296 ((o.set i lo).take (i+1))+4294967296^(i+1)*c':=by
    rw[dr,dr _ vs,du _ (by omega),cU,auf,auh (by omega),atL];simp only[val,aut,as3];have e:dg us i+c+dg vs i=lo+4294967296*c':=by omega
    generalize 4294967296^i=P at *;grind
   have D:(o.set i lo).drop (i+1)=us.drop (i+1):=by rw[fj];exact jg h7
   by_cases ai:i<vs.length
   ·simp(disch:=omega)[aK,ig,aP,ai,ah,ad,bB,ix,sT,uf,e1,e2,e3, -aue];repeat refine auA (by omega) ?_
    refine⟨o.set i lo,i+1,c',⟨by simpa using h1,by omega,F,by omega,D,G⟩,by omega,by simp[aR,hC]⟩
   ·have ax:dg vs i=0:=jC (by omega);rw[ax]at e1;simp at e1;simp(disch:=omega)[aK,ig,aP,ai,ah,ix,sT,uf,e1,e2,e3, -aue];repeat refine auA (by omega) ?_
    refine⟨o.set i lo,i+1,c',⟨by simpa using h1,by omega,F,by omega,D,G⟩,by omega,by simp[aR,hC]⟩
  ·obtain rfl:i=us.length:=by omega
   simp(disch:=omega)[];have:=hK o c h1 h3 (by rw[aug,aud (show o.length<=us.length by omega),aud (show vs.length<=us.length by omega)]at h8;simpa using h8)
   exact this
end Go.Proofs
namespace Go.Proofs
open Go.Sv Go Go.Pl
theorem Me(m:List Nat)(b:Nat)(hm:∀d∈m,d<4294967296)(hb:b<32)(hl:m.length<=4398046511104) :
  aG awW 191 [.ro (m.map u32),.val (.int .u64 b)] (.ro ((bO 4294967296 (val 4294967296 m / 2^b)).map u32)):=by
 refine aj Tryz.func191 rfl (by simp) (λC hC=>?_);simp(disch:=omega)[];refine⟨by omega,?_⟩;refine aa.loop (ι:=List Nat × Nat) (λ⟨o,i⟩=>⟨45,[(0,.ro (m.map u32)),(1,.val (.int .u64 b)),(5,.view 0 0 m.length),(12,.val (.int .i64 m.length)),(13,.val (.int .i64 i))],[some ⟨1,o.map u32,false⟩]⟩)
  (λ⟨o,i⟩=>o.length=m.length∧i<=m.length∧(∀d∈o,d<4294967296)∧val 4294967296 (o.take i)+4294967296^i*(val 4294967296 (m.drop i) / 2^b)=val 4294967296 m / 2^b)
  (λ⟨o,i⟩=>m.length - i) (asr m.length 0,0) ?_ ?_ ?_
 ·exact⟨by simp,by omega,by simp,by simp[val]⟩
 ·simp[aR,hC]
 ·rintro⟨o,i⟩ ⟨h1,h2,h3,h4⟩;by_cases aP:i<m.length
  ·have b0:=dT hm (by omega) i;have b1:=dT hm (by omega) (i+1);obtain⟨y,hy⟩:∃y,y=(dg m i+4294967296*dg m (i+1)) / 2^b % 4294967296:=⟨_,rfl⟩;have hp:(0:Nat)<2^b:=auk b;have a7:min b 64=b:=by omega
   have F:=kd i h3 (show y<4294967296 by omega);have G:val 4294967296 ((o.set i y).take (i+1))+4294967296^(i+1)*(val 4294967296 (m.drop (i+1)) / 2^b)=val 4294967296 m / 2^b:=by rw[du _ (by omega),cU,auf,auh (by omega),atL];rw[dm _ m i,dm _ m (i+1),He (by omega) b0,<-dm _ m (i+1),<-hy]at h4;simp only[val,aut,as3];rw[<-h4];grind
   by_cases ai:i+1<m.length
   ·have e1:((dg m i:Int)+dg m (i+1)*4294967296) / 2^b % 4294967296=y:=by
     rw[hy];simp[auz]
    have ag:(i:Int)+1<m.length:=by omega
    simp(disch:=omega)[aK,ig,aP,ag,bB,ix,KI,e1,lS, -aue];repeat refine auA (by omega) ?_
    refine⟨o.set i y,i+1,⟨by simpa using h1,by omega,F,G⟩,by omega,by simp[aR,hC]⟩
   ·have e1:(dg m i:Int) / 2^b % 4294967296=y:=by
     have:=jC (l:=m) (i:=i+1) (by omega);rw[hy,this];simp
    have ag:¬(i:Int)+1<m.length:=by omega
    simp(disch:=omega)[aK,ig,aP,ag,bB,ix,e1,lS, -aue];repeat refine auA (by omega) ?_
    refine⟨o.set i y,i+1,⟨by simpa using h1,by omega,F,G⟩,by omega,by simp[aR,hC]⟩
  ·obtain rfl:i=m.length:=by omega
   simp(disch:=omega)[];have e1:m.drop m.length=[]:=aub (by omega);rw[e1,aud (by omega)]at h4;simp[val]at h4;have:=nZ o (by omega);rw[<-gI (by omega) o h3,h4]at this;refine bg this (by simp[aud,h1]) ?_;simp
end Go.Proofs

