/- A text of the prover's own. -/
import Derived.Test.YtmghjkkjaolpgaaGreatDoorUPl
import Derived.Test.YtmghjkkjaolpgaaGreatDoorUTy
open List renaming eq_nil_or_concat→anz,concat_eq_append→anA,length_pos_iff→anB,drop_eq_nil_of_le→anC,take_succ_eq_append_getElem→anD,take_of_length_le→anE,length_cons→al4,map_set→anF,replicate→alZ,length_take→anG,take_length→anH
open Nat renaming le_trans→amQ,lt_or_ge→amz,min_eq_left→anI,two_pow_add_eq_or_of_lt→anJ,or_comm→anK,two_pow_pos→anL,pow_add→anM,mod_add_div→ani,mod_lt→amt,div_lt_iff_lt_mul→anN,mul_le_mul_left→ann,add_mul_div_left→anO,div_eq_of_lt→anP,add_mul_mod_self_left→anQ,mod_eq_of_lt→anR,mul_le_mul_right→amh,add_mul→alV,mul_assoc→anm,mul_lt_mul_of_pos_left→anS,pow_succ→anj,mul_le_mul→anT,add_assoc→amj,mul_zero→anU,add_zero→amA,pow_le_pow_right→ano
open Int renaming lt_trichotomy→anV,natCast_mul→anW,neg_mul→anX,mul_neg→anY,mul_comm→anZ
open And renaming intro→an0
set_option maxRecDepth 10000
namespace Go.Proofs
open Go.Sv Go Go.Pl
def cK(x:Int):SV:=.agg [.val (.bool (decide (x<0))),.ro ((bB 4294967296 x.natAbs).map u32)]
@[simp] theorem Zi(x:Int):(cK x).fj=2:=rfl
@[simp] theorem PR(x:Int):(cK x).aM=false:=rfl
@[simp] theorem QT(x:Int):(cK x).isAgg=true:=rfl
@[simp] theorem XE(x:Int):(cK x).pure=true:=rfl
@[simp] theorem afD(n:Nat)(x:Int):(cK x).lt n=true:=rfl
@[simp] theorem adS(x:Int):(cK x).ks=[]:=rfl
@[simp] theorem Z9(M:aJ)(x:Int)(y:SV):Sub M (cK x) y=(y=cK x):=by
 cases y with
 | agg l =>
  match l with
  | []=>simp[cK,Sv.Sub,cA]
  | [a]=>simp[cK,Sv.Sub,cA]
  | a::b::c::r=>simp[cK,Sv.Sub,cA]
  | [a,b]=>cases a<;>simp[cK,Sv.Sub,cA];intro _;exact eq_comm
 | _=>simp[cK,Sv.Sub]
theorem mh(xs:List Nat)(h:xs.length≤4398046511104):aI Tryz.prog 151 [.ro (xs.map u32)] (.ro ((cu xs).map u32)):=by
 refine aj Tryz.func151 rfl (by simp) (fun C hC=>?_);simp;refine ae.loop (ι:=List Nat) (fun l=>⟨21,[(0,.ro (l.map u32))],[]⟩) (fun l=>l.length≤4398046511104∧cu l=cu xs) (fun l=>l.length) xs ?_ ?_ ?_
 ·simp[h]
 ·simp[ar]
 ·rintro l ⟨hl,ht⟩;rcases anz l with rfl | ⟨zs,z,rfl⟩
  ·simp[←ht];simp[cu]
  ·simp at hl;rw[anA]at ht;simp(disch:=omega)[aP];refine⟨by omega,fun hz=>⟨by omega,zs,⟨by omega,by rw[←ht,hz,mD]⟩,by omega,by simp[ar,hC]⟩,fun hz=>?_⟩;simp[←ht,pF _ hz]
theorem jV(b:Bool)(xs:List Nat)(h:xs.length≤4398046511104)(hx:∀d∈xs,d<4294967296) :
  aI Tryz.prog 129 [.val (.bool b),.ro (xs.map u32)] (cK (if b=true then -(val 4294967296 xs:Int) else(val 4294967296 xs:Int))):=by
 refine aj Tryz.func129 rfl (by simp) (fun C hC=>?_);simp;refine aZ (mh xs h) (by simp) ?_;rw[←fT (by omega) xs hx];generalize val 4294967296 xs=n;cases b with
 | false=>
  simp[cK]
 | true =>
  simp[cK,anB,bL];by_cases h:n=0<;>simp[h];omega
theorem lE(n:Int)(h1 : -9223372036854775808≤n)(h2:n≤9223372036854775807):aI Tryz.prog 111 [.val (.int .i64 n)] (cK n):=by
 refine aj Tryz.func111 rfl (by simp) (fun C hC=>?_);have key:∀m:Nat,m≤9223372036854775808→bB 4294967296 m=cu [m % 4294967296,m / 4294967296]:=fun m hm=>by
  rw[←fT (B:=4294967296) (by omega) _ (by simp;omega)];congr 1;simp[val];omega
 by_cases hn:n<0
 ·obtain⟨m,rfl⟩:∃m:Nat,n = -(m:Int):=⟨n.natAbs,by omega⟩;have hm:0<m:=by omega
  have e1:IntKind.u64.wrap (-IntKind.u64.wrap (-(m:Int)))=m:=by simp only[Am];omega
  have e2:IntKind.u32.wrap ((m:Int) / 4294967296)=((m / 4294967296:Nat):Int):=by simp only[gE];omega
  simp[hm,e1,e2,gE];refine aZ (mh [m % 4294967296,m / 4294967296] (by simp)) (by simp) ?_;simp;refine aZ (jV true (cu [m % 4294967296,m / 4294967296]) (amQ (rC _) (by simp)) (Bi _ (by simp;omega))) (by simp) ?_;simp[Bv,val,cK];rw[show((m:Int) % 4294967296+4294967296*((m:Int) / 4294967296))=m from by omega];simp
 ·obtain⟨m,rfl⟩:∃m:Nat,n=(m:Int):=⟨n.natAbs,by omega⟩;have e1:IntKind.u64.wrap (m:Int)=m:=by simp only[Am];omega
  have e2:IntKind.u32.wrap ((m:Int) / 4294967296)=((m / 4294967296:Nat):Int):=by simp only[gE];omega
  simp[hn,e1,e2,gE];refine aZ (mh [m % 4294967296,m / 4294967296] (by simp)) (by simp) ?_;simp;refine aZ (jV false (cu [m % 4294967296,m / 4294967296]) (amQ (rC _) (by simp)) (Bi _ (by simp;omega))) (by simp) ?_;simp[Bv,val,cK];rw[show((m:Int) % 4294967296+4294967296*((m:Int) / 4294967296))=m from by omega];simp
end Go.Proofs
namespace Go.Proofs
open Go.Sv Go Go.Pl
theorem pH(m n:Nat)(hm:wid 4294967296 m≤4398046511104)(hn:wid 4294967296 n≤4398046511104) :
  aI Tryz.prog 131 [.ro ((bB 4294967296 m).map u32),.ro ((bB 4294967296 n).map u32)] (.val (.int .i64 (dZ m n))):=by
 refine aj Tryz.func131 rfl (by simp) (fun C hC=>?_);have vm:=bX (B:=4294967296) (by omega) m;have vn:=bX (B:=4294967296) (by omega) n;have lm:=cQ (B:=4294967296) (by omega) m;have ln:=cQ (B:=4294967296) (by omega) n;simp only[wid]at hm hn;simp;refine⟨fun hne=>⟨fun aF=>?_,fun hge=>?_⟩,fun he=>?_⟩
 ·simp[dZ,oI (by omega) aF]
 ·have:=oI (B:=4294967296) (m:=n) (n:=m) (by omega) (by omega);simp[dZ,this];omega
 ·refine ae.loop (ι:=List Nat × List Nat × List Nat) (fun⟨la,lb,r⟩=>⟨41,[(0,.ro ((la++r).map u32)),(1,.ro ((lb++r).map u32)),(5,.val (.int .i64 ((la.length:Int) - 1)))],[]⟩)
   (fun⟨la,lb,r⟩=>bB 4294967296 m=la++r∧bB 4294967296 n=lb++r∧la.length=lb.length) (fun⟨la,lb,r⟩=>la.length) (bB 4294967296 m,bB 4294967296 n,[]) ?_ ?_ ?_
  ·simp;omega
  ·simp(disch:=omega)[ar,aP]
  ·rintro⟨la,lb,r⟩ ⟨h1,h2,h3⟩;rcases anz la with rfl | ⟨la,x,rfl⟩
   ·have:lb=[]:=by cases lb<;>simp_all
    subst this;simp;have:m=n:=by rw[←vm,←vn,h1,h2]
    simp[dZ,this]
   ·rcases anz lb with rfl | ⟨lb,y,rfl⟩
    ·simp at h3
    simp at h1 h2 h3;simp[h3];have hl:lb.length<4398046511104:=by rw[h2]at hn;simp at hn;omega
    refine ae.alS (.qs [0,1,2,3,4,5,6,7,8] .nil) ?_;have c1:x<y→m<n:=fun h=>by rw[←vm,←vn,h1,h2];exact uk (fun d hd=>lm d (by rw[h1];simp[hd])) h3 h
    have c2:y<x→n<m:=fun h=>by rw[←vm,←vn,h1,h2];exact uk (fun d hd=>ln d (by rw[h2];simp[hd])) h3.symm h
    simp(disch:=omega)[uh,aP];refine⟨by omega,by omega,fun hne=>?_,fun he=>?_⟩
    ·refine ae.draw (.qs [0,1,2,3,4,5,6,7,8] .nil) (by kernel_rfl) (by kernel_rfl) (by simp) ?_;simp(disch:=omega)[uh,aP];refine⟨by omega,by omega,fun aF=>?_,fun hge=>?_⟩
     ·simp[dZ,c1 aF]
     ·have:=c2 (by omega);simp[dZ,this];omega
    ·refine⟨la,lb,y::r,?_⟩;have he:x=y:=by omega
     simp[h1,h2,h3,he,ar,hC]
theorem Cr(x y:Int)(hm:wid 4294967296 x.natAbs≤4398046511104)(hn:wid 4294967296 y.natAbs≤4398046511104) :
  aI Tryz.prog 93 [cK x,cK y] (.val (.int .i64 (if x<y then -1 else if y<x then 1 else 0))):=by
 refine aj Tryz.func93 rfl (by simp) (fun C hC=>?_);have hc:=pH _ _ hm hn;by_cases hx:x<0<;>by_cases hy:y<0<;>simp[cK,hx,hy]
 ·refine aZ hc (by simp) ?_;rcases anV x y with h | h | h
  ·have e:dZ x.natAbs y.natAbs=1:=by rw[dZ,if_neg (by omega),if_pos (by omega)]
   simp[e,h,aP]
  ·subst h;simp[dZ,aP]
  ·have e:dZ x.natAbs y.natAbs = -1:=by rw[dZ,if_pos (by omega)]
   have:¬x<y:=by omega
   simp[e,h,this,aP]
 ·omega
 ·omega
 ·refine aZ hc (by simp) ?_;rcases anV x y with h | h | h
  ·have e:dZ x.natAbs y.natAbs = -1:=by rw[dZ,if_pos (by omega)]
   simp[e,h]
  ·subst h;simp[dZ]
  ·have e:dZ x.natAbs y.natAbs=1:=by rw[dZ,if_neg (by omega),if_pos (by omega)]
   have:¬x<y:=by omega
   simp[e,h,this]
theorem mv(x:Int):aI Tryz.prog 92 [cK x] (.val (.int .i64 x.sign)):=by
 refine aj Tryz.func92 rfl (by simp) (fun C hC=>?_);simp[cK,bL];refine⟨fun h=>by simp[h],fun _=>⟨fun h=>(Int.sign_eq_neg_one_of_neg h).symm,fun h=>(Int.sign_eq_one_of_pos (by omega)).symm⟩⟩
theorem Bx(x:Int):0<(bB 4294967296 x.natAbs).length↔x≠0:=by
 rw[anB,ne_eq,bL (by omega)];omega
theorem sq(x:Int):aI Tryz.prog 128 [cK x] (cK (-x)):=by
 refine aj Tryz.func128 rfl (by simp) (fun C hC=>?_);simp[cK,Bx];refine⟨fun h=>?_,fun h=>by omega⟩;by_cases h0:x=0
 ·simp[h0]
 ·have:0<x:=by omega
  simp[h0,this]
end Go.Proofs
namespace Go.Pl
open Go.Sv Go
theorem kN{α:Type}{l:List α}{i:Nat}{x:α}(h:i<l.length):l.getD i x=l[i]:=by simp[h]
theorem rP{α:Type}{l:List α}{i:Nat}{x:α}(h:l.length≤i):l.getD i x=x:=by simp[h]
def dg(l:List Nat)(i:Nat):Nat:=l.getD i 0
theorem dV{B:Nat}{l:List Nat}(h:∀d∈l,d<B)(hB:0<B)(i:Nat):dg l i<B:=by
 unfold dg;rcases amz i l.length with h' | h'
 ·rw[kN h'];exact h _ (List.getElem_mem h')
 ·rw[rP h'];exact hB
theorem jm{l:List Nat}{i:Nat}(h:l.length≤i):dg l i=0:=by unfold dg;exact rP h
theorem di(B:Nat)(l:List Nat)(i:Nat):val B (l.drop i)=dg l i+B*val B (l.drop (i+1)):=by
 unfold dg;rcases amz i l.length with h | h
 ·rw[List.drop_eq_getElem_cons h,kN h];rfl
 ·rw[anC h,anC (by omega),rP h];simp[val]
theorem kd(B:Nat)(l:List Nat)(i:Nat)(h:i≤l.length):val B (l.take (i+1))=val B (l.take i)+B^i*dg l i:=by
 unfold dg;rcases amz i l.length with h' | h'
 ·rw[anD h',kN h',cP];simp[val,anI h]
 ·have:i=l.length:=by omega
  subst this;rw[rP (Nat.le_refl _),anE (by omega),anE (by omega)];simp
theorem po{α:Type}(l:List α):l=[]∨∃zs z,l=zs++[z]:=by
 rcases anz l with h | ⟨zs,z,h⟩
 ·exact .inl h
 ·exact .inr ⟨zs,z,by rw[h,anA]⟩
theorem uZ(q:List Nat):q.take (cu q).length=cu q:=by
 induction q with
 | nil=>rfl
 | cons d q ih =>
  simp only[cu];split
  ·split<;>simp_all
  ·rename_i e r h;rw[h]at ih;simp only[al4,List.take_succ_cons]at ih ⊢;rw[ih]
theorem mC{B x:Nat}{l:List Nat}(h:∀d∈l,d<B)(hx:x<B):∀d∈l++[x],d<B:=by
 intro d hd;rcases List.mem_append.1 hd with hd | hd
 ·exact h d hd
 ·simp at hd;omega
theorem KS{B x:Nat}{l:List Nat}(h:∀d∈l,d<B)(hx:x<B):∀d∈x::l,d<B:=by
 intro d hd;rcases List.mem_cons.1 hd with hd | hd
 ·omega
 ·exact h d hd
theorem jO{B x:Nat}{l:List Nat}(i:Nat)(h:∀d∈l,d<B)(hx:x<B):∀d∈l.set i x,d<B:=by
 intro d hd;rcases List.mem_or_eq_of_mem_set hd with hd | hd
 ·exact h d hd
 ·omega
theorem bs{xs:List Nat}{i:Nat}(h:i<xs.length):aA (xs.map u32) i=.val (.int .u32 ((dg xs i:Nat):Int)):=by
 rw[wA _ _ _ h];simp[dg,h]
theorem dQ{xs:List Nat}{i:Nat}(h:i<xs.length):aA (xs.map i64) i=.val (.int .i64 ((dg xs i:Nat):Int)):=by
 rw[wA _ _ _ h];simp[dg,h]
theorem D6{xs:List Nat}{i:Nat}(h:i<xs.length):aA (xs.map u8) i=.val (.int .u8 ((dg xs i:Nat):Int)):=by
 rw[wA _ _ _ h];simp[dg,h]
theorem Ev(xs:List Nat)(i z:Nat):bD (xs.map u8) i (.val (.int .u8 (z:Int)))=(xs.set i z).map u8:=by
 rw[cj,←Nj,anF]
theorem kF(xs:List Nat)(i z:Nat):bD (xs.map u32) i (.val (.int .u32 (z:Int)))=(xs.set i z).map u32:=by
 rw[cj,←DW,anF]
theorem II(xs:List Nat)(i z:Nat):bD (xs.map i64) i (.val (.int .i64 (z:Int)))=(xs.set i z).map i64:=by
 rw[cj,←Kn,anF]
theorem dw{l:List Nat}{i:Nat}(x:Nat)(h:i<l.length):(l.set i x).take (i+1)=l.take i++[x]:=by
 rw[anD (by simpa using h)];simp[List.take_set_of_le]
theorem BK(x y:Int)(hx:0≤x∧x<4294967296)(hy:0≤y∧y<4294967296):(((BitVec.ofInt 64 (x*4294967296) ||| BitVec.ofInt 64 y).toNat:Nat):Int)=x*4294967296+y:=by
 obtain⟨a,rfl⟩:∃a:Nat,x=a:=⟨x.toNat,by omega⟩;obtain⟨b,rfl⟩:∃b:Nat,y=b:=⟨y.toNat,by omega⟩;have e1:(BitVec.ofInt 64 ((a:Int)*4294967296)).toNat=2^32*a:=by
  rw[BitVec.toNat_ofInt];simp;omega
 have e2:(BitVec.ofInt 64 (b:Int)).toNat=b:=by
  rw[BitVec.toNat_ofInt];simp;omega
 rw[BitVec.toNat_or,e1,e2,←anJ (by omega)];omega
theorem kP(x y:Int)(hx:0≤x∧x<4294967296)(hy:0≤y∧y<4294967296):r8 .or .u64 (x*4294967296) y=x*4294967296+y:=by
 have:=BK x y hx hy;simp only[r8]
 erw [this]
 rw[gx];omega
theorem Bt(x:Int)(hx:0≤x∧x≤18446744073709551615):r8 .and .u64 x 4294967295=x % 4294967296:=by
 obtain⟨a,rfl⟩:∃a:Nat,x=a:=⟨x.toNat,by omega⟩;have e1:(BitVec.ofInt 64 (a:Int)).toNat=a:=by
  rw[BitVec.toNat_ofInt];simp;omega
 have e2:(BitVec.ofInt 64 4294967295).toNat=2^32 - 1:=by decide
 have e3:(BitVec.ofInt 64 (a:Int) &&& BitVec.ofInt 64 4294967295).toNat=a % 4294967296:=by
  rw[BitVec.toNat_and,e1,e2,Nat.and_two_pow_sub_one_eq_mod]
 simp only[r8]
 erw [e3]
 rw[gx]<;>omega
theorem dp(B:Nat)(l:List Nat)(i:Nat):val B (l.take (i+1))=val B (l.take i)+B^i*dg l i:=by
 rcases amz l.length i with h | h
 ·rw[anE (by omega),anE (by omega),jm (by omega)];simp
 ·exact kd B l i h
theorem val_zero(B:Nat):∀(l:List Nat),(∀d∈l,d=0)→val B l=0
 | [],_=>rfl
 | d::l,h=>by simp[val,h d (by simp),val_zero B l fun e he=>h e (by simp[he])]
theorem yx(B n:Nat):val B (alZ n 0)=0:=by
 induction n with
 | zero=>rfl
 | succ n ih=>simp[List.replicate_succ,val,ih]
theorem rz(A R:List SV){us:List Nat}{i:Nat}(h:i<us.length):aA (A++(us.map u32++R)) (A.length+i)=.val (.int .u32 ((dg us i:Nat):Int)):=by
 induction A with
 | nil=>simp only[List.nil_append,List.length_nil,Nat.zero_add];rw[Cc (by simpa using h),bs h]
 | cons a A ih =>
  rw[al4,show A.length+1+i=A.length+i+1 by omega];exact ih
theorem qF(A R:List SV){us:List Nat}{i:Nat}(z:Nat)(h:i<us.length):bD (A++(us.map u32++R)) (A.length+i) (.val (.int .u32 (z:Int)))=A++((us.set i z).map u32++R):=by
 rw[cj,List.set_append_right _ _ (by omega),Nat.add_sub_cancel_left,List.set_append_left _ _ (by simpa using h),←DW,anF]
theorem Iu(x y:Int)(hx:0≤x∧x<4294967296)(hy:0≤y∧y<4294967296):r8 .or .u64 x (y*4294967296)=x+y*4294967296:=by
 have:=BK y x hy hx;have e:((BitVec.ofInt 64 x ||| BitVec.ofInt 64 (y*4294967296)).toNat:Int)=y*4294967296+x:=by
  rw[←this,BitVec.toNat_or,BitVec.toNat_or,anK]
 simp only[r8]
 erw [e]
 rw[gx]<;>omega
theorem C7{b d e Z:Nat}(hb:b≤32)(hd:d<4294967296):(d+4294967296*(e+4294967296*Z)) / 2^b=(d+4294967296*e) / 2^b % 4294967296+4294967296*((e+4294967296*Z) / 2^b):=by
 have hp:0<2^b:=anL b;have hB:4294967296=2^b*2^(32 - b):=by rw[←anM,show b+(32 - b)=32 by omega]
 obtain⟨r,s,he,hr⟩:∃r s,e=r+2^b*s∧r<2^b:=⟨e % 2^b,e / 2^b,(ani _ _).symm,amt _ hp⟩;have h1:(d+4294967296*r) / 2^b<4294967296:=by
  rw[anN hp];have:=ann 4294967296 (show r+1≤2^b by omega);omega
 have h2:(d+4294967296*e) / 2^b=(d+4294967296*r) / 2^b+4294967296*s:=by
  rw[he,show d+4294967296*(r+2^b*s)=(d+4294967296*r)+2^b*(4294967296*s) by grind,anO _ _ hp]
 have h3:(e+4294967296*Z) / 2^b=s+2^(32 - b)*Z:=by
  rw[he,show r+2^b*s+4294967296*Z=r+2^b*(s+2^(32 - b)*Z) by(conv=>lhs;rhs;lhs;rw[hB]);grind,anO _ _ hp,anP hr];omega
 have h4:(d+4294967296*(e+4294967296*Z)) / 2^b=(d+4294967296*r) / 2^b+4294967296*(s+2^(32 - b)*Z):=by
  rw[show d+4294967296*(e+4294967296*Z)=(d+4294967296*r)+2^b*(4294967296*(s+2^(32 - b)*Z)) by
   rw[he,show r+2^b*s+4294967296*Z=r+2^b*(s+2^(32 - b)*Z) by(conv=>lhs;rhs;lhs;rw[hB]);grind];grind,anO _ _ hp]
 rw[h4,h2,h3,anQ,anR h1]
theorem mo{l:List Nat}{i:Nat}(x:Nat)(h:i<l.length)(j:Nat):dg (l.set i x) j=if i=j then x else dg l j:=by
 unfold dg;simp only[List.getD_eq_getElem?_getD,List.getElem?_set,h];split<;>simp_all
theorem Jz(n i:Nat):dg (alZ n 0) i=0:=by
 unfold dg;rcases amz i n with h | h<;>simp[h]
theorem Fv(x y:Int)(a b k:Nat)(hx:x=a)(hy:y=((2^k*b:Nat):Int))(ha:a<2^k)(hs:a+2^k*b<4294967296):r8 .or .u32 x y=((a+2^k*b:Nat):Int):=by
 subst hx hy;have e1:(BitVec.ofInt 32 (a:Int)).toNat=a:=by
  rw[BitVec.toNat_ofInt];simp;omega
 have e2:(BitVec.ofInt 32 ((2^k*b:Nat):Int)).toNat=2^k*b:=by
  rw[BitVec.toNat_ofInt];simp only[Nat.reducePow];omega
 have e3:(BitVec.ofInt 32 (a:Int) ||| BitVec.ofInt 32 ((2^k*b:Nat):Int)).toNat=a+2^k*b:=by
  rw[BitVec.toNat_or,e1,e2,anK,←anJ ha];omega
 simp only[r8]
 erw [e3]
 rw[LR]<;>omega
/-! Steps of reckoning by digits. -/
theorem vB{B P vo T a ra bw b rb bw' u:Nat}(h:vo+P*(a+B*ra)=T+P*(bw+(b+B*rb)))(e:a+B*bw'=u+b+bw) :
  vo+P*u+P*B*ra=T+P*B*(bw'+rb):=by grind
theorem Gl{B Pi Pj r1 c ro x y d u c' od:Nat}(h:r1+Pi*Pj*c=ro+Pi*(x*od))(e:x*y+d+c=u+B*c') :
  (r1+Pi*Pj*u)+Pi*Pj*B*c'=(ro+Pi*Pj*d)+Pi*(x*(od+Pj*y)):=by grind
theorem eY{l:List Nat}{i:Nat}(x:Nat):(l.set i x).drop (i+1)=l.drop (i+1):=by
 rw[List.drop_set_of_lt (by omega)]
theorem qp{l l':List Nat}{i:Nat}(h:l.drop i=l'.drop i):dg l i=dg l' i:=by
 have h1:=di 0 l i;have h2:=di 0 l' i;rw[h]at h1;simp at h1 h2;omega
theorem iN{l l':List Nat}{i:Nat}(h:l.drop i=l'.drop i):l.drop (i+1)=l'.drop (i+1):=by
 have:=congrArg (List.drop 1) h;simpa[List.drop_drop,Nat.add_comm]using this
theorem FP{B P ud c b vo g vd u u' b' c' v:Nat}(h:ud+P*(c+b)=vo+g*vd)(e:u+B*b'+B*c'=u'+b+(g*v+c)) :
  (ud+P*u)+P*B*(c'+b')=(vo+P*u')+g*(vd+P*v):=by grind
theorem Du{B P lo d rest e9 hi q r N:Nat}(h:N=(lo+P*d+P*B*rest)+e9*(P*B*hi))(e:rest*B+d=e9*q+r) :
  N=(lo+P*r)+e9*(P*(q+B*hi)):=by grind
theorem E9{B K v1 v2 V0 top u2 U0 g rest q U V:Nat}(hV:V=(v1*B+v2)*K+V0)(hU:U=(top*B+u2)*K+U0)(hU0:U0<K)(hq:q*V≤U)
  (ht:g*v1+rest=top) (hgt:rest*B+u2<g*v2):q<g:=by
 rcases amz q g with h | h
 ·exact h
 ·exfalso;have h1:g*V≤U:=amQ (amh V h) hq;have h2:g*((v1*B+v2)*K)≤g*V:=ann g (by omega);have h3:top*B+u2+1≤g*(v1*B+v2):=by
   have:g*(v1*B+v2)=g*v1*B+g*v2:=by grind
   rw[this,←ht,alV];omega
  have h4:=amh K h3;rw[alV,Nat.one_mul,anm]at h4;omega
theorem Fh{B K v1 v2 V0 top u2 U0 g rest U V:Nat}(hV:V=(v1*B+v2)*K+V0)(hU:U=(top*B+u2)*K+U0)(hV0:V0<K)(hv1:1≤v1)(hg:g≤B)
  (ht:g*v1+rest=top) (hle:g*v2≤rest*B+u2) (hB:0<B):g*V<U+V:=by
 have h3:g*(v1*B+v2)≤top*B+u2:=by
  have:g*(v1*B+v2)=g*v1*B+g*v2:=by grind
  rw[this,←ht,alV];omega
 have h4:=amh K h3;have h5:g*V=g*(v1*B+v2)*K+g*V0:=by rw[hV];grind
 have h6:B*K≤V:=by
  have:B*K≤v1*B*K:=amh K (by simpa using amh B hv1);have e:(v1*B+v2)*K=v1*B*K+v2*K:=by grind
  omega
 have h7:g*V0≤B*V0:=amh V0 hg;have h8:B*V0<B*K:=anS hV0 hB;omega
theorem Ds{q g U V:Nat}(hq:U / V=q)(hV:0<V)(h1:q≤g)(h2:g*V<U+V):g=q∨(g=q+1):=by
 have:U<(q+1)*V:=by rw[←hq];exact Nat.lt_mul_of_div_lt (by omega) hV
 have h3:g*V<(q+2)*V:=by
  have:(q+2)*V=(q+1)*V+V:=by grind
  omega
 have:=Nat.lt_of_mul_lt_mul_right h3;omega
end Go.Pl
namespace Go.Proofs
open Go.Sv Go Go.Pl
def MX(B n k:Nat)(x:SV):Prop:=∃l:List Nat,x=.ro (l.map u32)∧(∀d∈l,d<B)∧val B l=n∧l.length≤k
theorem Ki(a b:List Nat)(ha:∀d∈a,d<4294967296)(hb:∀d∈b,d<4294967296)(hla:a.length≤4398046511104)(hlb:b.length≤4398046511104) :
  nS Tryz.prog 130 [.ro (a.map u32),.ro (b.map u32)] (MX 4294967296 (val 4294967296 a+val 4294967296 b) (max a.length b.length+1)):=by
 refine aj Tryz.func130 rfl (by simp) (fun C hC=>?_);obtain⟨s,hs⟩:∃s,s=val 4294967296 a+val 4294967296 b:=⟨_,rfl⟩;obtain⟨k,hk⟩:∃k,k=max a.length b.length+1:=⟨_,rfl⟩;obtain⟨p,q,hp,hq,hlp,hlq,hs',hk',hpq⟩:∃p q:List Nat,(∀d∈p,d<4294967296)∧(∀d∈q,d<4294967296)∧p.length≤4398046511104∧q.length≤p.length∧val 4294967296 p+val 4294967296 q=s∧p.length+1=k ∧
   (a.length<b.length∧p=b∧q=a∨¬a.length<b.length∧p=a∧q=b):=by
  rcases amz a.length b.length with h | h
  ·exact⟨b,a,hb,ha,hlb,by omega,by omega,by omega,.inl ⟨h,rfl,rfl⟩⟩
  ·exact⟨a,b,ha,hb,hla,by omega,by omega,by omega,.inr ⟨by omega,rfl,rfl⟩⟩
 rw[←hs,←hk];clear hs hk ha hb hla hlb;rcases hpq with⟨h,e1,e2⟩ | ⟨h,e1,e2⟩;all_goals
  subst e1 e2;simp(disch:=omega)[h,aP];refine⟨by omega,?_⟩;refine ae.loop (ι:=List Nat × Nat)
   (fun⟨out,c⟩=>⟨56,[(0,.ro (p.map u32)),(1,.ro (q.map u32)),(5,.view 0 0 out.length),(6,.val (.int .u64 c)),(21,.val (.int .i64 p.length)),(22,.val (.int .i64 out.length))],[some ⟨1,out.map u32,false⟩]⟩)
   (fun⟨out,c⟩=>out.length+1≤k∧c≤1∧(∀d∈out,d<4294967296) ∧
    val 4294967296 out+4294967296^out.length*(c+(val 4294967296 (p.drop out.length)+val 4294967296 (q.drop out.length)))=s)
   (fun⟨out,c⟩=>k - out.length) ([],0) ?_ ?_ ?_
  ·simpa[val]using⟨by omega,hs'⟩
  ·simp[ar,hC]
  ·rintro⟨out,c⟩ ⟨h1,h2,h3,h4⟩;have bp:=dV hp (by omega) out.length;have bq:=dV hq (by omega) out.length;obtain⟨x,hx⟩:∃x,x=dg p out.length+c+dg q out.length:=⟨_,rfl⟩;have F1:∀d∈out++[x % 4294967296],d<4294967296:=mC h3 (by omega);have F2:val 4294967296 (out++[x % 4294967296])+4294967296^(out.length+1)*(x / 4294967296+(val 4294967296 (p.drop (out.length+1))+val 4294967296 (q.drop (out.length+1))))=s:=by
    rw[←h4,u9,di _ p out.length,di _ q out.length,hx];congr 2;omega
   by_cases aF:out.length<p.length
   ·by_cases hlq:out.length<q.length
    ·simp(disch:=omega)[aF,hlq,aP,gx,hC,bs,gE];exact⟨by omega,out++[x % 4294967296],x / 4294967296,⟨by simp;omega,by omega,F1,by simpa using F2⟩,by simp;omega,by subst hx;simp[ar,hC]⟩
    ·have:=jm (l:=q) (i:=out.length) (by omega);rw[this]at hx;simp(disch:=omega)[aF,hlq,aP,gx,hC,bs,gE];exact⟨by omega,out++[x % 4294967296],x / 4294967296,⟨by simp;omega,by omega,F1,by simpa using F2⟩,by simp;omega,by subst hx;simp[ar,hC]⟩
   ·simp(disch:=omega)[aF,aP,LR,gx,hC];refine⟨by omega,?_⟩;have e1:p.drop out.length=[]:=anC (by omega);have e2:q.drop out.length=[]:=anC (by omega);simp only[e1,e2,val]at h4;refine⟨_,?_,out++[c],rfl,?_,?_,?_⟩
    ·simp[anE]
    ·exact mC h3 (by omega)
    ·rw[cP];simp[val,←h4]
    ·simp;omega
end Go.Proofs
namespace Go.Proofs
open Go.Sv Go Go.Pl
theorem A2(p q:List Nat)(hp:∀d∈p,d<4294967296)(hq:∀d∈q,d<4294967296)(hlp:p.length≤4398046511104)(hlq:q.length≤p.length)(T:Nat)(hT:val 4294967296 p=T+val 4294967296 q) :
  nS Tryz.prog 132 [.ro (p.map u32),.ro (q.map u32)] (MX 4294967296 T p.length):=by
 refine aj Tryz.func132 rfl (by simp) (fun C hC=>?_);simp(disch:=omega)[aP];refine⟨by omega,?_⟩;refine ae.loop (ι:=List Nat × Nat × Nat)
  (fun⟨o,i,c⟩=>⟨44,[(0,.ro (p.map u32)),(1,.ro (q.map u32)),(5,.view 0 0 p.length),(6,.val (.int .u64 c)),(13,.val (.int .i64 p.length)),(14,.val (.int .i64 i))],[some ⟨1,o.map u32,false⟩]⟩)
  (fun⟨o,i,c⟩=>o.length=p.length∧i≤p.length∧c≤1∧(∀d∈o,d<4294967296) ∧
   val 4294967296 (o.take i)+4294967296^i*val 4294967296 (p.drop i)=T+4294967296^i*(c+val 4294967296 (q.drop i)))
  (fun⟨o,i,c⟩=>p.length - i) (alZ p.length 0,0,0) ?_ ?_ ?_
 ·simp[val,hT]
 ·simp[ar,hC]
 ·rintro⟨o,i,c⟩ ⟨h1,h2,h3,h4,h5⟩;have bp:=dV hp (by omega) i;have bq:=dV hq (by omega) i;by_cases aF:i<p.length
  ·have key:∀u c',dg p i+4294967296*c'=u+dg q i+c→val 4294967296 ((o.set i u).take (i+1))+4294967296^(i+1)*val 4294967296 (p.drop (i+1))=T+4294967296^(i+1)*(c'+val 4294967296 (q.drop (i+1))):=by
    intro u c' e;rw[dw _ (by omega),cP,anG,anI (by omega),anj];rw[di _ p i,di _ q i]at h5;simpa[val]using vB h5 e
   obtain⟨u,c',hu,hc',e0,e1,e2⟩:∃u c':Nat,u<4294967296∧c'≤1∧dg p i+4294967296*c'=u+dg q i+c∧((dg p i:Int) - c - dg q i) % 18446744073709551616 / 9223372036854775808=c'∧((dg p i:Int) - c - dg q i) % 4294967296=u:=by
    rcases amz (dg p i) (dg q i+c)with h | h
    ·exact⟨dg p i+4294967296 - dg q i - c,1,by omega,by omega,by omega,by omega,by omega⟩
    ·exact⟨dg p i - dg q i - c,0,by omega,by omega,by omega,by omega,by omega⟩
   have F:=jO i h4 hu;by_cases hlq:i<q.length
   ·simp(disch:=omega)[aF,hlq,aP,hC,bs,gE,Am,e1,e2];exact⟨by omega,o.set i u,i+1,c',⟨by simpa using h1,by omega,by omega,F,key u c' e0⟩,by omega,by simp[ar,hC,kF]⟩
   ·have:=jm (l:=q) (i:=i) (by omega);rw[this]at e1 e2;simp at e1 e2;simp(disch:=omega)[aF,hlq,aP,hC,bs,gE,Am,e1,e2];exact⟨by omega,o.set i u,i+1,c',⟨by simpa using h1,by omega,by omega,F,key u c' e0⟩,by omega,by simp[ar,hC,kF]⟩
  ·have hi:i=p.length:=by omega
   subst hi;simp(disch:=omega)[aP,hC];have e1:p.drop p.length=[]:=anC (by omega);have e2:q.drop p.length=[]:=anC (by omega);have e3:o.take p.length=o:=anE (by omega);have h6:=kc o h4;rw[e1,e2,e3]at h5;rw[h1]at h6;have h7:val 4294967296 o=T:=by
    rcases Nat.le_one_iff_eq_zero_or_eq_one.1 h3 with rfl | rfl
    ·simpa[val]using h5
    ·simp[val]at h5;omega
   exact⟨_,by simp[anE,h1],o,rfl,h4,h7,by omega⟩
end Go.Proofs
namespace Go.Proofs
open Go.Sv Go Go.Pl
def fit(x:Int):Prop:=wid 4294967296 x.natAbs≤1000000000000
theorem pK(x y:Int)(hm:fit x)(hn:fit y) :
  aI Tryz.prog 80 [cK x,cK y] (cK (x+y)):=by
 refine aj Tryz.func80 rfl (by simp) (fun C hC=>?_);have B2:2≤4294967296:=by omega
 have vx:=bX B2 x.natAbs;have vy:=bX B2 y.natAbs;have lx:=cQ B2 x.natAbs;have ly:=cQ B2 y.natAbs;have hm':=hm;have hn':=hn;simp only[fit,wid]at hm' hn';by_cases hs:(x<0↔y<0)
 ·simp[cK,hs];refine ae.alS (.qs [0,1,2,3,4,5]<|.l 6 []<|.l 7 []<|.l 8 [2]<|.nil) ?_;simp;refine vZ (Ki _ _ lx ly (by omega) (by omega)) (by simp) ?_;rintro _ ⟨l,rfl,h1,h2,h3⟩;simp;have e:(if decide (y<0)=true then -(val 4294967296 l:Int) else(val 4294967296 l:Int))=x+y:=by
   rw[h2,vx,vy];split<;>simp_all<;>omega
  have hmd:=jV (decide (y<0)) l (by omega) h1;rw[e]at hmd;refine aZ hmd (by simp) ?_;simp[cK]
 ·have hc:=pH _ _ (show wid 4294967296 x.natAbs≤4398046511104 by simp only[wid];omega) (show wid 4294967296 y.natAbs≤4398046511104 by simp only[wid];omega);have hle:∀{m n:Nat},m≤n→(bB 4294967296 m).length≤(bB 4294967296 n).length:=fun h=>bY B2 h;rcases amz x.natAbs y.natAbs with h | h
  ·have e0:dZ x.natAbs y.natAbs = -1:=by simp[dZ,h]
   rw[e0]at hc;have hmi:=A2 _ _ ly lx (by omega) (hle (by omega)) (y.natAbs - x.natAbs) (by rw[vx,vy];omega);simp[cK,hs];refine aZ hc (by simp) ?_;simp;refine ae.alS (.qs [0,1,2,3,4,5]<|.l 6 []<|.l 7 []<|.l 8 [2]<|.nil) ?_;simp;refine vZ hmi (by simp) ?_;rintro _ ⟨l,rfl,h1,h2,h3⟩;simp;have e:(if decide (y<0)=true then -(val 4294967296 l:Int) else(val 4294967296 l:Int))=x+y:=by
    rw[h2];split<;>simp_all<;>omega
   have hmd:=jV (decide (y<0)) l (by omega) h1;rw[e]at hmd;refine aZ hmd (by simp) ?_;simp[cK]
  ·have e0:dZ x.natAbs y.natAbs=if y.natAbs<x.natAbs then 1 else 0:=by simp[dZ];omega
   rw[e0]at hc;have hmi:=A2 _ _ lx ly (by omega) (hle (by omega)) (x.natAbs - y.natAbs) (by rw[vx,vy];omega);simp[cK,hs];refine aZ hc (by simp) ?_;have e1:¬(if y.natAbs<x.natAbs then(1:Int) else 0)<0:=by split<;>omega
   simp[e1];refine ae.alS (.qs [0,1,2,3,4,5]<|.l 6 []<|.l 7 []<|.l 8 [2]<|.nil) ?_;simp;refine vZ hmi (by simp) ?_;rintro _ ⟨l,rfl,h1,h2,h3⟩;simp;have e:(if decide (x<0)=true then -(val 4294967296 l:Int) else(val 4294967296 l:Int))=x+y:=by
    rw[h2];split<;>simp_all<;>omega
   have hmd:=jV (decide (x<0)) l (by omega) h1;rw[e]at hmd;refine aZ hmd (by simp) ?_;simp[cK]
theorem uI{x:Int}:fit (-x)↔fit x:=by simp[fit]
theorem Jt(x y:Int)(hm:fit x)(hn:fit y) :
  aI Tryz.prog 160 [cK x,cK y] (cK (x - y)):=by
 refine aj Tryz.func160 rfl (by simp) (fun C hC=>?_);simp;refine ae.alS (.qs [0,1]<|.l 2 []<|.l 3 []<|.l 4 [2]<|.nil) ?_;simp;refine aZ (sq y) (by simp) ?_;simp;refine aZ (pK x (-y) hm (uI.2 hn)) (by simp) ?_;simp[Int.sub_eq_add_neg]
end Go.Proofs
namespace Go.Proofs
open Go.Sv Go Go.Pl
theorem ET(x y:Int):(if(decide (x<0) != decide (y<0))=true then -((x.natAbs*y.natAbs:Nat):Int) else((x.natAbs*y.natAbs:Nat):Int))=x*y:=by
 rw[anW];by_cases h1:x<0<;>by_cases h2:y<0
 ·have e1:(x.natAbs:Int) = -x:=by omega
  have e2:(y.natAbs:Int) = -y:=by omega
  simp[h1,h2,e1,e2,anX,anY]
 ·have e1:(x.natAbs:Int) = -x:=by omega
  have e2:(y.natAbs:Int)=y:=by omega
  simp[h1,h2,e1,e2,anX,anY]
 ·have e1:(x.natAbs:Int)=x:=by omega
  have e2:(y.natAbs:Int) = -y:=by omega
  simp[h1,h2,e1,e2,anX,anY]
 ·have e1:(x.natAbs:Int)=x:=by omega
  have e2:(y.natAbs:Int)=y:=by omega
  simp[h1,h2,e1,e2,anX,anY]
theorem iH(x y:Int)(hm:fit x)(hn:fit y) :
  aI Tryz.prog 82 [cK x,cK y] (cK (x*y)):=by
 refine aj Tryz.func82 rfl (by simp) (fun C hC=>?_);have B2:2≤4294967296:=by omega
 have vx:=bX B2 x.natAbs;have vy:=bX B2 y.natAbs;have lx:=cQ B2 x.natAbs;have ly:=cQ B2 y.natAbs;have hxm:(if(decide (x<0) != decide (y<0))=true then -((x.natAbs*y.natAbs:Nat):Int) else((x.natAbs*y.natAbs:Nat):Int))=x*y:=ET x y;simp only[fit,wid]at hm hn;simp[cK];generalize bB 4294967296 x.natAbs=a at *;generalize bB 4294967296 y.natAbs=b at *;simp(disch:=omega)[aP];refine⟨by omega,?_⟩;refine ae.loop (ι:=List Nat × Nat)
  (fun⟨o,i⟩=>⟨78,[(2,.ptr 0 0 0),(3,.ptr 1 0 0),(4,.ptr 2 0 0),(5,.view 3 0 (a.length+b.length)),(21,.ro (a.map u32)),(22,.val (.int .i64 a.length)),(23,.val (.int .i64 i))],
   [some ⟨2,[.agg [.val (.bool (decide (x<0))),.ro (a.map u32)]],false⟩,some ⟨2,[.agg [.val (.bool (decide (y<0))),.ro (b.map u32)]],false⟩,some ⟨2,[.agg [.val (.bool false),.val (.slice none 0 0)]],false⟩,some ⟨1,o.map u32,false⟩]⟩)
  (fun⟨o,i⟩=>o.length=a.length+b.length∧i≤a.length∧(∀d∈o,d<4294967296)∧val 4294967296 (o.take (i+b.length))=val 4294967296 (a.take i)*val 4294967296 b)
  (fun⟨o,i⟩=>a.length - i) (alZ (a.length+b.length) 0,0) ?_ ?_ ?_
 ·refine⟨by simp,by omega,by simp,?_⟩;simp[yx];simp[val]
 ·simp[ar,hC]
 ·rintro⟨o,i⟩ ⟨h1,h2,h3,h4⟩;by_cases aF:i<a.length
  ·simp(disch:=omega)[aF,aP,hC,bs,gE,Am];have bx:=dV lx (by omega) i;refine ae.loop (ι:=List Nat × Nat × Nat)
    (fun⟨o',j,c⟩=>⟨78,[(2,.ptr 0 0 0),(3,.ptr 1 0 0),(4,.ptr 2 0 0),(5,.view 3 0 (a.length+b.length)),(6,.val (.int .i64 i)),(7,.val (.int .u32 (dg a i))),(8,.val (.int .u64 c)),(21,.ro (a.map u32)),(22,.val (.int .i64 a.length)),(23,.val (.int .i64 i)),
      (29,.ro (b.map u32)),(30,.val (.int .i64 b.length)),(31,.val (.int .i64 j))],
     [some ⟨2,[.agg [.val (.bool (decide (x<0))),.ro (a.map u32)]],false⟩,some ⟨2,[.agg [.val (.bool (decide (y<0))),.ro (b.map u32)]],false⟩,some ⟨2,[.agg [.val (.bool false),.val (.slice none 0 0)]],false⟩,some ⟨1,o'.map u32,false⟩]⟩)
    (fun⟨o',j,c⟩=>o'.length=a.length+b.length∧j≤b.length∧c<4294967296∧(∀d∈o',d<4294967296)∧o'.drop (i+j)=o.drop (i+j) ∧
     val 4294967296 (o'.take (i+j))+4294967296^i*4294967296^j*c=val 4294967296 (o.take (i+j))+4294967296^i*(dg a i*val 4294967296 (b.take j)))
    (fun⟨o',j,c⟩=>b.length - j) (o,0,0) ?_ ?_ ?_
   ·exact⟨h1,by omega,by omega,h3,rfl,by simp[val]⟩
   ·simp[ar,hC]
   ·rintro⟨o',j,c⟩ ⟨g1,g2,g3,g4,g5,g6⟩;by_cases hlj:j<b.length
    ·have bo:=dV g4 (by omega) (i+j);have by_:=dV ly (by omega) j;obtain⟨t,ht⟩:∃t,t=dg a i*dg b j+dg o' (i+j)+c:=⟨_,rfl⟩;have hxy:dg a i*dg b j≤4294967295*4294967295:=anT (by omega) (by omega);have hxy':(dg a i:Int)*dg b j≤18446744065119617025:=by rw[←anW];omega
     have hxy0:(0:Int)≤(dg a i:Int)*dg b j:=by rw[←anW];omega
     have F:=jO (i+j) g4 (amt t (show 0<4294967296 by omega));have K:val 4294967296 ((o'.set (i+j) (t % 4294967296)).take (i+(j+1)))+4294967296^i*4294967296^(j+1)*(t / 4294967296)=val 4294967296 (o.take (i+(j+1)))+4294967296^i*(dg a i*val 4294967296 (b.take (j+1))):=by
      rw[←amj,dw _ (by omega),cP,anG,anI (by omega),kd _ o _ (by omega),kd _ b _ (by omega)];simp only[val,anU,amA,anj,anM];rw[qp g5]at ht;have e:=ani t 4294967296;have:=Gl g6 (show dg a i*dg b j+dg o (i+j)+c=t % 4294967296+4294967296*(t / 4294967296) by omega);simpa[anm]using this
     simp(disch:=omega)[hlj,aP,hC,bs,gE,gx];refine⟨by omega,by omega,by omega,by omega,o'.set (i+j) (t % 4294967296),j+1,t / 4294967296,⟨by simpa using g1,by omega,by omega,F,?_,K⟩,by omega,?_⟩
     ·rw[←amj,eY];exact iN g5
     ·subst ht;simp[ar,hC,cj]
    ·obtain rfl:j=b.length:=by omega
     simp(disch:=omega)[aP,hC,bs,gE];have e:(c:Int) % 4294967296=c:=by omega
     have tb:b.take b.length=b:=anH;refine⟨by omega,by omega,o'.set (i+b.length) c,i+1,⟨by simpa using g1,by omega,jO _ g4 g3,?_⟩,by omega,by simp[ar,hC,cj,e]⟩;rw[show i+1+b.length=i+b.length+1 by omega,dw _ (by omega),cP,anG,anI (by omega),kd _ a _ (by omega),anM];rw[tb,h4]at g6;simp only[val,anU,amA];rw[g6];grind
  ·obtain rfl:i=a.length:=by omega
   simp(disch:=omega)[aP,hC,bs,gE,Am];have e1:a.take a.length=a:=anH;have e2:o.take (a.length+b.length)=o:=anE (by omega);rw[e1,e2,vx,vy]at h4;have hmd:=jV (decide (x<0) != decide (y<0)) o (by omega) h3;rw[h4,hxm]at hmd;refine aZ hmd (by simp[anE,h1,bne]) ?_;simp[cK]
end Go.Proofs
namespace Go.Proofs
open Go.Sv Go Go.Pl
theorem DC(m:List Nat)(hm:∀d∈m,d<4294967296)(hl:m.length≤2) :
  aI Tryz.prog 167 [.ro (m.map u32)] (.val (.int .u64 (val 4294967296 m))):=by
 refine aj Tryz.func167 rfl (by simp) (fun C hC=>?_);simp(disch:=omega)[aP];refine ae.loop (ι:=Nat)
  (fun i=>⟨21,[(0,.ro (m.map u32)),(3,.val (.int .u64 (val 4294967296 (m.drop i)))),(4,.val (.int .i64 ((i:Int) - 1)))],[]⟩)
  (fun i=>i≤m.length)
  (fun i=>i) m.length ?_ ?_ ?_
 ·simp
 ·simp[ar,hC,val]
 ·rintro i hi;cases i with
  | zero=>simp
  | succ i =>
   have hv:=kc (m.drop (i+1)) (fun d hd=>hm d (List.mem_of_mem_drop hd));have hlen:(m.drop (i+1)).length≤1:=by simp;omega
   have hv':val 4294967296 (m.drop (i+1))<4294967296:=Nat.lt_of_lt_of_le hv (ano (by omega) hlen);have bd:=dV hm (by omega) i;simp(disch:=omega)[aP,gx,bs,kP];refine⟨by omega,i,by omega,by omega,?_⟩;have:=di 4294967296 m i;simp[ar,hC,this];omega
end Go.Proofs
namespace Go.Proofs
open Go.Sv Go Go.Pl
theorem Ft{C:Ctx}{M:aJ}{k:Nat}{W:Option (List Nat)}{K:aJ→List Nat→SV→Prop}(l:List Nat)(r:List SV)(hk:ao M k=some ⟨1,l.map u32++r,false⟩)(hl:l.length≤4398046511104)
  (hW:∀ks,W=some ks→∀i e,ao M i=some e→i∈ks) (hK:K M [] (.view k 0 (cu l).length)):dH Tryz.prog C 151 [.view k 0 l.length] M W K:=by
 refine eI Tryz.func151 rfl (by simp) [] (by simp) (fun ks h=>⟨rfl,hW ks h⟩) (fun C' hC=>?_);simp;refine ae.loop (ι:=List Nat) (fun l'=>⟨21,[(0,.view k 0 l'.length)],M⟩) (fun l'=>l' <+: l∧cu l'=cu l) (fun l=>l.length) l ?_ ?_ ?_
 ·simp
 ·simp[ar]
 ·rintro l' ⟨hp,ht⟩;obtain⟨t,rfl⟩:=hp;rcases po l' with rfl | ⟨zs,z,rfl⟩
  ·rw[←ht]at hK;simpa[cu]using hK
  ·simp at hl;rw[←ht]at hK;simp(disch:=omega)[aP,hk];refine⟨by omega,fun hz=>⟨by omega,zs,⟨⟨z::t,by simp⟩,?_⟩,by omega,by simp[ar]⟩,fun hz=>?_⟩
   ·rw[hz,mD]at ht;rw[ht,hz];simp
   ·rw[pF _ hz]at hK;simpa using hK
theorem vA{C:Ctx}{M:aJ}{k:Nat}{W:Option (List Nat)}{K:aJ→List Nat→SV→Prop}(l:List Nat)(r:List SV)(e9:Nat)(hk:ao M k=some ⟨1,l.map u32++r,false⟩)(hl:l.length≤4398046511104)
  (hd:∀d∈l,d<4294967296) (hb:0<e9∧e9<4294967296)
  (hW:∀ks,W=some ks→∀i e,ao M i=some e→i∈ks)
  (hK:∀q,(∀d∈q,d<4294967296)→q.length=l.length→val 4294967296 q=val 4294967296 l / e9→K (aN M k (some ⟨1,q.map u32++r,false⟩)) [] (.bG [.view k 0 (cu q).length,.val (.int .u32 ((val 4294967296 l % e9:Nat):Int))])) :
  dH Tryz.prog C 110 [.view k 0 l.length,.val (.int .u32 e9)] M W K:=by
 refine eI Tryz.func110 rfl (by simp) [] (by simp) (fun ks h=>⟨rfl,hW ks h⟩) (fun C' hC=>?_);simp(disch:=omega)[aP];refine ae.loop (ι:=List Nat × Nat × List Nat × Nat) (fun⟨lo,i,hi,rest⟩=>⟨40,[(0,.view k 0 l.length),(1,.val (.int .u32 e9)),(6,.val (.int .u64 rest)),(7,.val (.int .i64 ((i:Int) - 1)))],aN M k (some ⟨1,(lo++hi).map u32++r,false⟩)⟩)
  (fun⟨lo,i,hi,rest⟩=>lo.length=i∧i+hi.length=l.length∧(∀d∈lo,d<4294967296)∧(∀d∈hi,d<4294967296)∧rest<e9∧val 4294967296 l=(val 4294967296 lo+4294967296^i*rest)+e9*(4294967296^i*val 4294967296 hi))
  (fun⟨lo,i,hi,rest⟩=>i) (l,l.length,[],0) ?_ ?_ ?_
 ·simpa[val]using⟨hd,hb.1⟩
 ·simp[ar,lL hk]
 ·rintro⟨lo,i,hi,rest⟩ ⟨h1,h2,h3,h4,h5,h6⟩;cases i with
  | zero =>
   have h1':=List.length_eq_zero_iff.1 h1;subst h1';simp[val]at h6;have hq:val 4294967296 hi=val 4294967296 l / e9:=by
    rw[h6,anO _ _ hb.1,anP h5];omega
   have hr:rest=val 4294967296 l % e9:=by
    rw[h6,anQ,anR h5]
   have h2':hi.length=l.length:=by omega
   simp;rw[←h2'];refine Ft hi r (gm _ hk) (by omega) (by simp) ?_;have e:(rest:Int) % 4294967296=rest:=by omega
   simp[gE,e];have:=hK hi h4 h2' hq;rw[hr];simpa using this
  | succ i =>
   rcases po lo with rfl | ⟨lo,x,rfl⟩
   ·simp at h1
   ·simp at h1;subst h1;have hx:=h3 x (by simp);obtain⟨X,hX⟩:∃X,X=rest*4294967296+x:=⟨_,rfl⟩;have hq:X / e9<4294967296:=by
     rw[anN hb.1,hX,Nat.mul_comm];have:(rest+1)*4294967296≤e9*4294967296:=amh _ h5;omega
    have e1:((rest:Int)*4294967296+x) / e9=((X / e9:Nat):Int):=by rw[hX];simp
    have e2:((rest:Int)*4294967296+x) % e9=((X % e9:Nat):Int):=by rw[hX];simp
    have hr:X % e9<e9:=amt _ hb.1;have e0:rest*4294967296+x=e9*(X / e9)+X % e9:=by rw[←hX];exact(Nat.div_add_mod X e9).symm
    generalize X / e9=q at *;generalize X % e9=rr at *;simp(disch:=omega)[aP,gx,gm _ hk,bs,kP,gE,Int.tdiv_eq_ediv_of_nonneg,Int.tmod_eq_emod_of_nonneg,e1,e2];have e3:(q:Int) % 4294967296=q:=by omega
    refine⟨by omega,by omega,by omega,by omega,lo,lo.length,q::hi,rr,⟨rfl,by simp;omega,fun d hd=>h3 d (by simp[hd]),KS h4 hq,hr,?_⟩,by omega,by simp[ar,e3]⟩;rw[cP,anj]at h6;simp only[val,anU,amA]at h6;exact Du h6 e0
end Go.Proofs
namespace Go.Proofs
open Go.Sv Go Go.Pl
theorem yf{C:Ctx}{M:aJ}{K:aJ→List Nat→SV→Prop}(m:List Nat)(b s:Nat){s':Int}(hs':s'=s)(hm:∀d∈m,d<4294967296)(hb:b<32)(hl:m.length≤s)(hs:s≤4398046511104)(hv:val 4294967296 m*2^b<4294967296^s)
  (hK:∀o,o.length=s→(∀d∈o,d<4294967296)→val 4294967296 o=val 4294967296 m*2^b→K (M++[some ⟨1,o.map u32,false⟩]) [] (.view M.length 0 s)) :
  dH Tryz.prog C 168 [.ro (m.map u32),.val (.int .u64 b),.val (.int .i64 s')] M none K:=by
 subst hs';refine eI Tryz.func168 rfl (by simp) [] (by simp) (by simp) (fun C' hC=>?_);simp(disch:=omega)[aP];refine⟨by omega,?_⟩;refine ae.loop (ι:=List Nat × Nat) (fun⟨o,i⟩=>⟨44,[(0,.ro (m.map u32)),(1,.val (.int .u64 b)),(7,.view M.length 0 s),(13,.ro (m.map u32)),(14,.val (.int .i64 m.length)),(15,.val (.int .i64 i))],M++[some ⟨1,o.map u32,false⟩]⟩)
  (fun⟨o,i⟩=>o.length=s∧i≤m.length∧(∀d∈o,d<4294967296)∧val 4294967296 (o.take (i+1))=val 4294967296 (m.take i)*2^b∧dg o i<2^b∧∀j,i<j→dg o j=0)
  (fun⟨o,i⟩=>m.length - i) (alZ s 0,0) ?_ ?_ ?_
 ·refine⟨by simp,by omega,by simp,by simp[yx];simp[val],?_,fun j _=>Jz _ _⟩;rw[Jz];exact anL b
 ·simp[ar,hC]
 ·rintro⟨o,i⟩ ⟨h1,h2,h3,h4,h5,h6⟩;by_cases aF:i<m.length
  ·have bm:=dV hm (by omega) i;have bo:=dV h3 (by omega) i;have hp:(2:Nat)^b≤2147483648:=ano (by omega) (show b≤31 by omega);obtain⟨z,hz⟩:∃z,z=dg m i % 2^(32 - b):=⟨_,rfl⟩;obtain⟨w,hw⟩:∃w,w=2^b*dg m i:=⟨_,rfl⟩;have hB:4294967296=2^b*2^(32 - b):=by rw[←anM,show b+(32 - b)=32 by omega]
   have hwz:w % 4294967296=2^b*z:=by
    rw[hw,hz];conv=>lhs;rhs;rw[hB]
    exact Nat.mul_mod_mul_left _ _ _
   have hzlt:z+1≤2^(32 - b):=by rw[hz];exact amt _ (anL _)
   have hlow:dg o i+2^b*z<4294967296:=by
    have:=ann (2^b) hzlt;rw[←hB,Nat.mul_add,Nat.mul_one]at this;omega
   have hhi:w / 4294967296<2^b:=by
    rw[anN (by omega),hw];exact anS bm (anL b)
   have hw64:w<18446744073709551616:=by
    have:w≤2147483648*4294967295:=by rw[hw];exact anT hp (by omega)
    omega
   have e1:IntKind.u64.wrap ((dg m i:Int)*2^b)=w:=by
    have:(dg m i:Int)*2^b=w:=by rw[hw];push_cast;exact anZ _ _
    rw[this,gx];omega
   have e2:r8 .or .u32 (dg o i:Int) ((w:Int) % 4294967296)=((dg o i+2^b*z:Nat):Int):=Fv _ _ _ _ b rfl (by rw[←hwz];rfl) h5 hlow
   -- what a step brings
   have hval:val 4294967296 ((o.set i (dg o i+2^b*z)).take (i+1))+4294967296^(i+1)*(w / 4294967296)=val 4294967296 (m.take (i+1))*2^b:=by
    rw[dw _ (by omega),cP,anG,anI (by omega),kd _ m _ h2];rw[kd _ o i (by omega)]at h4;have:=ani w 4294967296;rw[hwz]at this;simp only[val,anU,amA,anj];grind
   have e3:(w:Int) / 4294967296=((w / 4294967296:Nat):Int):=by simp
   generalize w / 4294967296=h at *;generalize dg o i+2^b*z=y at *;have e4:(h:Int) % 4294967296=h:=by omega
   have F:=jO i h3 hlow;by_cases hh:0<h
   ·have hs1:i+1<s:=by
     rcases amz (i+1) s with h | h
     ·exact h
     ·exfalso;have:s=i+1:=by omega
      subst this;have h7:val 4294967296 (m.take (i+1))=val 4294967296 m:=by rw[anE (by omega)]
      rw[h7]at hval;have:=ann (4294967296^(i+1)) hh;omega
    have hl1:i+1<(o.set i y).length:=by simp;omega
    simp(disch:=omega)[aP,bs,aF,gx,gE,e1,e2,e3,e4,kF, -anF,hh];refine⟨by omega,by omega,by omega,by omega,by omega,by omega,(o.set i y).set (i+1) h,i+1,⟨by simpa using h1,by omega,jO _ F (by omega),?_,?_,?_⟩,by omega,?_⟩
    ·rw[dw _ hl1,cP,anG,anI (Nat.le_of_lt hl1)];simpa[val]using hval
    ·rw[mo _ hl1,if_pos rfl];exact hhi
    ·intro j hj;rw[mo _ hl1,if_neg (by omega),mo _ (by omega),if_neg (by omega)];exact h6 j (by omega)
    ·simp[ar,hC]
   ·obtain rfl:h=0:=by omega
    simp(disch:=omega)[aP,bs,aF,gx,gE,e1,e2,e3,e4,kF, -anF];refine⟨by omega,by omega,by omega,by omega,o.set i y,i+1,⟨by simpa using h1,by omega,F,?_,?_,?_⟩,by omega,?_⟩
    ·rw[kd _ _ _ (by simp;omega),mo _ (by omega),if_neg (by omega),h6 _ (by omega)];simpa using hval
    ·rw[mo _ (by omega),if_neg (by omega),h6 _ (by omega)];exact anL b
    ·intro j hj;rw[mo _ (by omega),if_neg (by omega)];exact h6 j (by omega)
    ·simp[ar,hC,cj]
  ·obtain rfl:i=m.length:=by omega
   simp(disch:=omega)[aP];have e5:m.take m.length=m:=anH;rw[e5]at h4;have e6:val 4294967296 (o.take (m.length+1))=val 4294967296 o:=by
    rcases amz m.length s with h | h
    ·rw[←List.take_append_drop (m.length+1) o,cP];have:val 4294967296 (o.drop (m.length+1))=0:=by
      refine val_zero _ _ fun d hd=>?_;obtain⟨j,hj,rfl⟩:=List.getElem_of_mem hd;have:=h6 (m.length+1+j) (by omega);simp only[List.length_drop]at hj;unfold dg at this;rw[kN (by omega)]at this;rw[List.getElem_drop];exact this
     rw[this];simp
    ·rw[anE (by omega)]
   exact hK o h1 h3 (by omega)
end Go.Proofs
namespace Go.Proofs
open Go.Sv Go Go.Pl
theorem xi{C:Ctx}{M:aJ}{k k2 i0 nu nv:Nat}{K:aJ→List Nat→SV→Prop}(A R:List SV)(us vs:List Nat)(g:Nat)(hk:ao M k=some ⟨1,A++(us.map u32++R),false⟩)(hk2:ao M k2=some ⟨1,vs.map u32,false⟩)(hne:k2≠k)(hi:i0=A.length)(hnu:nu=us.length)(hnv:nv=vs.length)
  (hu:∀d∈us,d<4294967296) (hv:∀d∈vs,d<4294967296) (hg:g<4294967296) (hl:vs.length<us.length) (hs:us.length≤4398046511104)
  (hK:∀o b,o.length=us.length→(∀d∈o,d<4294967296)→b≤1→val 4294967296 us+4294967296^us.length*b=val 4294967296 o+g*val 4294967296 vs→K (aN M k (some ⟨1,A++(o.map u32++R),false⟩)) [] (.val (.bool (decide (0<b))))) :
  dH Tryz.prog C 169 [.view k i0 nu,.view k2 0 nv,.val (.int .u64 g)] M none K:=by
 subst hi hnu hnv;refine eI Tryz.func169 rfl (by simp) [] (by simp) (by simp) (fun C' hC=>?_);simp(disch:=omega)[aP];refine ae.loop (ι:=List Nat × Nat × Nat × Nat) (fun⟨o,i,c,b⟩=>⟨51,[(0,.view k A.length us.length),(1,.view k2 0 vs.length),(2,.val (.int .u64 g)),(7,.val (.int .u64 c)),(8,.val (.int .u64 b)),(12,.val (.int .i64 us.length)),(13,.val (.int .i64 i))],aN M k (some ⟨1,A++(o.map u32++R),false⟩)⟩)
  (fun⟨o,i,c,b⟩=>o.length=us.length∧i≤us.length∧(∀d∈o,d<4294967296)∧c<4294967296∧b≤1∧(vs.length<i→c=0)∧o.drop i=us.drop i ∧
   val 4294967296 (us.take i)+4294967296^i*(c+b)=val 4294967296 (o.take i)+g*val 4294967296 (vs.take i))
  (fun⟨o,i,c,b⟩=>us.length - i) (us,0,0,0) ?_ ?_ ?_
 ·exact⟨rfl,by omega,hu,by omega,by omega,fun _=>rfl,rfl,by simp[val]⟩
 ·simp[ar,hC,lL hk]
 ·rintro⟨o,i,c,b⟩ ⟨h1,h2,h3,h4,h5,h6,h7,h8⟩;have hk':=gm (M:=M) (k:=k) ⟨1,A++(o.map u32++R),false⟩ hk;have hk2':ao (aN M k (some ⟨1,A++(o.map u32++R),false⟩)) k2=some ⟨1,vs.map u32,false⟩:=by rw[uR _ hk hne];exact hk2
  by_cases aF:i<us.length
  ·have bo:=dV h3 (by omega) i;have bv:=dV hv (by omega) i;have ho:dg o i=dg us i:=qp h7;obtain⟨t,ht⟩:∃t,t=c+g*dg vs i:=⟨_,rfl⟩;have hgv:g*dg vs i≤4294967295*4294967295:=anT (by omega) (by omega);have hgv':(g:Int)*dg vs i≤18446744065119617025:=by rw[←anW];omega
   have hgv0:(0:Int)≤(g:Int)*dg vs i:=by rw[←anW];omega
   have e1:(c:Int)+g*dg vs i=t:=by rw[ht];push_cast;rfl
   obtain⟨c',hc'⟩:∃c',c'=t / 4294967296:=⟨_,rfl⟩;obtain⟨lo,hlo⟩:∃lo,lo=t % 4294967296:=⟨_,rfl⟩;have e2:(t:Int) % 4294967296=lo:=by omega
   have e3:(t:Int) / 4294967296=c':=by omega
   obtain⟨u,b',hu',hb',e0,e4,e5⟩:∃u b':Nat,u<4294967296∧b'≤1∧dg o i+4294967296*b'=u+lo+b∧((dg o i:Int) - lo - b) % 18446744073709551616 / 9223372036854775808=b'∧((dg o i:Int) - lo - b) % 4294967296=u:=by
    rcases amz (dg o i) (lo+b)with h | h
    ·exact⟨dg o i+4294967296 - lo - b,1,by omega,by omega,by omega,by omega,by omega⟩
    ·exact⟨dg o i - lo - b,0,by omega,by omega,by omega,by omega,by omega⟩
   have hc6:vs.length<i+1→c'=0:=by
    intro h;rw[jm (by omega)]at ht;rw[hc',ht];simp;omega
   have F:=jO i h3 hu';have G:val 4294967296 (us.take (i+1))+4294967296^(i+1)*(c'+b')=val 4294967296 ((o.set i u).take (i+1))+g*val 4294967296 (vs.take (i+1)):=by
    rw[dp,dp _ vs,dw _ (by omega),cP,anG,anI (by omega),anj];simp only[val,anU,amA];exact FP h8 (by rw[←ho];omega)
   have D:(o.set i u).drop (i+1)=us.drop (i+1):=by rw[eY];exact iN h7
   have hlo2:lo<4294967296:=by omega
   by_cases hlv:i<vs.length
   ·simp(disch:=omega)[aP,gx,aF,hlv,hk',hk2',bs,gE,rz,qF,e1,Bt,e2,e3,Am,e4,e5, -anF];repeat refine an0 (by omega) ?_
    refine⟨o.set i u,i+1,c',b',⟨by simpa using h1,by omega,F,by omega,hb',hc6,D,G⟩,by omega,by simp[ar,hC]⟩
   ·have hv0:dg vs i=0:=jm (by omega);have htc:t=c:=by rw[ht,hv0];simp
    subst htc;simp(disch:=omega)[aP,gx,aF,hlv,hk',hk2',bs,gE,rz,qF,Bt,e2,e3,Am,e4,e5, -anF];repeat refine an0 (by omega) ?_
    refine⟨o.set i u,i+1,c',b',⟨by simpa using h1,by omega,F,by omega,hb',hc6,D,G⟩,by omega,by simp[ar,hC]⟩
  ·obtain rfl:i=us.length:=by omega
   simp(disch:=omega)[aP];have:=hK o b h1 h3 h5 (by
    rw[anH,anE (show o.length≤us.length by omega),anE (show vs.length≤us.length by omega),h6 hl]at h8;simpa using h8)
   exact this
theorem xe{C:Ctx}{M:aJ}{k k2 i0 nu nv:Nat}{K:aJ→List Nat→SV→Prop}(A R:List SV)(us vs:List Nat)(hk:ao M k=some ⟨1,A++(us.map u32++R),false⟩)(hk2:ao M k2=some ⟨1,vs.map u32,false⟩)(hne:k2≠k)(hi:i0=A.length)(hnu:nu=us.length)(hnv:nv=vs.length)
  (hu:∀d∈us,d<4294967296) (hv:∀d∈vs,d<4294967296) (hl:vs.length<us.length) (hs:us.length≤4398046511104)
  (hK:∀o c,o.length=us.length→(∀d∈o,d<4294967296)→val 4294967296 us+val 4294967296 vs=val 4294967296 o+4294967296^us.length*c→K (aN M k (some ⟨1,A++(o.map u32++R),false⟩)) [] (.bG [])) :
  dH Tryz.prog C 170 [.view k i0 nu,.view k2 0 nv] M none K:=by
 subst hi hnu hnv;refine eI Tryz.func170 rfl (by simp) [] (by simp) (by simp) (fun C' hC=>?_);simp(disch:=omega)[aP];refine ae.loop (ι:=List Nat × Nat × Nat) (fun⟨o,i,c⟩=>⟨38,[(0,.view k A.length us.length),(1,.view k2 0 vs.length),(4,.val (.int .u64 c)),(8,.val (.int .i64 us.length)),(9,.val (.int .i64 i))],aN M k (some ⟨1,A++(o.map u32++R),false⟩)⟩)
  (fun⟨o,i,c⟩=>o.length=us.length∧i≤us.length∧(∀d∈o,d<4294967296)∧c≤1∧o.drop i=us.drop i ∧
   val 4294967296 (us.take i)+val 4294967296 (vs.take i)=val 4294967296 (o.take i)+4294967296^i*c)
  (fun⟨o,i,c⟩=>us.length - i) (us,0,0) ?_ ?_ ?_
 ·exact⟨rfl,by omega,hu,by omega,rfl,by simp[val]⟩
 ·simp[ar,hC,lL hk]
 ·rintro⟨o,i,c⟩ ⟨h1,h2,h3,h4,h7,h8⟩;have hk':=gm (M:=M) (k:=k) ⟨1,A++(o.map u32++R),false⟩ hk;have hk2':ao (aN M k (some ⟨1,A++(o.map u32++R),false⟩)) k2=some ⟨1,vs.map u32,false⟩:=by rw[uR _ hk hne];exact hk2
  by_cases aF:i<us.length
  ·have bo:=dV h3 (by omega) i;have bv:=dV hv (by omega) i;have ho:dg o i=dg us i:=qp h7;obtain⟨t,ht⟩:∃t,t=dg o i+c+dg vs i:=⟨_,rfl⟩;have e1:(dg o i:Int)+c+dg vs i=t:=by rw[ht];push_cast;rfl
   obtain⟨c',hc'⟩:∃c',c'=t / 4294967296:=⟨_,rfl⟩;obtain⟨lo,hlo⟩:∃lo,lo=t % 4294967296:=⟨_,rfl⟩;have e2:(t:Int) % 4294967296=lo:=by omega
   have e3:(t:Int) / 4294967296=c':=by omega
   have hlo2:lo<4294967296:=by omega
   have F:=jO i h3 hlo2;have G:val 4294967296 (us.take (i+1))+val 4294967296 (vs.take (i+1))=val 4294967296 ((o.set i lo).take (i+1))+4294967296^(i+1)*c':=by
    rw[dp,dp _ vs,dw _ (by omega),cP,anG,anI (by omega),anj];simp only[val,anU,amA];have e:dg us i+c+dg vs i=lo+4294967296*c':=by omega
    generalize 4294967296^i=P at *;grind
   have D:(o.set i lo).drop (i+1)=us.drop (i+1):=by rw[eY];exact iN h7
   by_cases hlv:i<vs.length
   ·simp(disch:=omega)[aP,gx,aF,hlv,hk',hk2',bs,gE,rz,qF,e1,e2,e3, -anF];repeat refine an0 (by omega) ?_
    refine⟨o.set i lo,i+1,c',⟨by simpa using h1,by omega,F,by omega,D,G⟩,by omega,by simp[ar,hC]⟩
   ·have hv0:dg vs i=0:=jm (by omega);rw[hv0]at e1;simp at e1;simp(disch:=omega)[aP,gx,aF,hlv,hk',hk2',bs,gE,rz,qF,e1,e2,e3, -anF];repeat refine an0 (by omega) ?_
    refine⟨o.set i lo,i+1,c',⟨by simpa using h1,by omega,F,by omega,D,G⟩,by omega,by simp[ar,hC]⟩
  ·obtain rfl:i=us.length:=by omega
   simp(disch:=omega)[aP];have:=hK o c h1 h3 (by
    rw[anH,anE (show o.length≤us.length by omega),anE (show vs.length≤us.length by omega)]at h8;simpa using h8)
   exact this
end Go.Proofs
namespace Go.Proofs
open Go.Sv Go Go.Pl
theorem JD(m:List Nat)(b:Nat)(hm:∀d∈m,d<4294967296)(hb:b<32)(hl:m.length≤4398046511104) :
  aI Tryz.prog 171 [.ro (m.map u32),.val (.int .u64 b)] (.ro ((bB 4294967296 (val 4294967296 m / 2^b)).map u32)):=by
 refine aj Tryz.func171 rfl (by simp) (fun C hC=>?_);simp(disch:=omega)[aP];refine⟨by omega,?_⟩;refine ae.loop (ι:=List Nat × Nat) (fun⟨o,i⟩=>⟨45,[(0,.ro (m.map u32)),(1,.val (.int .u64 b)),(5,.view 0 0 m.length),(12,.val (.int .i64 m.length)),(13,.val (.int .i64 i))],[some ⟨1,o.map u32,false⟩]⟩)
  (fun⟨o,i⟩=>o.length=m.length∧i≤m.length∧(∀d∈o,d<4294967296)∧val 4294967296 (o.take i)+4294967296^i*(val 4294967296 (m.drop i) / 2^b)=val 4294967296 m / 2^b)
  (fun⟨o,i⟩=>m.length - i) (alZ m.length 0,0) ?_ ?_ ?_
 ·exact⟨by simp,by omega,by simp,by simp[val]⟩
 ·simp[ar,hC]
 ·rintro⟨o,i⟩ ⟨h1,h2,h3,h4⟩;by_cases aF:i<m.length
  ·have b0:=dV hm (by omega) i;have b1:=dV hm (by omega) (i+1);obtain⟨y,hy⟩:∃y,y=(dg m i+4294967296*dg m (i+1)) / 2^b % 4294967296:=⟨_,rfl⟩;have hp:(0:Nat)<2^b:=anL b;have hmin:min b 64=b:=by omega
   have F:=jO i h3 (show y<4294967296 by omega);have G:val 4294967296 ((o.set i y).take (i+1))+4294967296^(i+1)*(val 4294967296 (m.drop (i+1)) / 2^b)=val 4294967296 m / 2^b:=by
    rw[dw _ (by omega),cP,anG,anI (by omega),anj];rw[di _ m i,di _ m (i+1),C7 (by omega) b0,←di _ m (i+1),←hy]at h4;simp only[val,anU,amA];rw[←h4];grind
   by_cases hlv:i+1<m.length
   ·have e1:((dg m i:Int)+dg m (i+1)*4294967296) / 2^b % 4294967296=y:=by
     rw[hy];simp[anZ]
    have hlv':(i:Int)+1<m.length:=by omega
    simp(disch:=omega)[aP,gx,aF,hlv',bs,gE,Iu,e1,kF, -anF];repeat refine an0 (by omega) ?_
    refine⟨o.set i y,i+1,⟨by simpa using h1,by omega,F,G⟩,by omega,by simp[ar,hC]⟩
   ·have e1:(dg m i:Int) / 2^b % 4294967296=y:=by
     have:=jm (l:=m) (i:=i+1) (by omega);rw[hy,this];simp
    have hlv':¬(i:Int)+1<m.length:=by omega
    simp(disch:=omega)[aP,gx,aF,hlv',bs,gE,e1,kF, -anF];repeat refine an0 (by omega) ?_
    refine⟨o.set i y,i+1,⟨by simpa using h1,by omega,F,G⟩,by omega,by simp[ar,hC]⟩
  ·obtain rfl:i=m.length:=by omega
   simp(disch:=omega)[aP];have e1:m.drop m.length=[]:=anC (by omega);rw[e1,anE (by omega)]at h4;simp[val]at h4;have:=mh o (by omega);rw[←fT (by omega) o h3,h4]at this;refine aZ this (by simp[anE,h1]) ?_;simp
end Go.Proofs

