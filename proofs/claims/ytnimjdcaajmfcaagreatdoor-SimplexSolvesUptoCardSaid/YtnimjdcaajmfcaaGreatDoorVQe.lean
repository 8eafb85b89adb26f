/- A text of the prover's own. -/
import Derived.Test.YtnimjdcaajmfcaaGreatDoorVFs
open Rat renaming lt_iff->aA9,divInt->aBa,num_divInt->aBb,den_divInt->aBc,num_divInt_den->aBd,divInt_add_divInt->aBe,sub_eq_add_neg->aBf,divInt_mul_divInt->aBg,inv_def->aBh,div_def->aBi
open Int renaming natAbs_ediv_le_natAbs->aBj,lt_trichotomy->aAF,sign_eq_neg_one_of_neg->aBk,sign_eq_one_of_pos->aBl,gcd->aA5,gcd_comm->aBm
open Nat renaming le_trans->ayr
open Go.Proofs.Tryz renaming prog->ay9
set_option maxRecDepth 10000
namespace Go.Pl
def btw:Nat->Rat->Rat->Rat
 | 0,_,_=>0
 | n+1,low,high =>
  if(low.ceil:Rat)<=high then(low.ceil:Rat)
  else(low.floor:Rat)+(btw n (high - low.floor)⁻¹ (low - low.floor)⁻¹)⁻¹
theorem yd{q:Rat}:0<q.num↔0<q:=by rw[aA9];simp
end Go.Pl
namespace Go.Proofs
open Go.Sv Go Go.Pl
def aS(q:Rat):SV:=.agg [.val (.bool (decide (q.num<0))),.ro ((bO 4294967296 q.num.natAbs).map u32),.val (.bool false),.ro ((bO 4294967296 (q.den - 1)).map u32)]
@[simp] theorem ai4(x:Rat):(aS x).ir=4:=rfl
@[simp] theorem Y5(x:Rat):(aS x).aW=false:=rfl
@[simp] theorem Ym(x:Rat):(aS x).isAgg=true:=rfl
@[simp] theorem ad8(x:Rat):(aS x).pure=true:=rfl
@[simp] theorem am9(n:Nat)(x:Rat):(aS x).lt n=true:=rfl
@[simp] theorem adn(k:Nat)(x:Rat):(aS x).cD k=false:=rfl
@[simp] theorem ahc(M:aC)(x:Rat)(y:SV):Sub M (aS x) y=(y=aS x):=by
 cases y with
 | agg l =>
  match l with
  | []=>simp[aS,cP]
  | [a]=>simp[aS,Sv.Sub,cP]
  | [a,b]=>simp[aS,Sv.Sub,cP]
  | [a,b,c]=>simp[aS,Sv.Sub,cP]
  | a::b::c::d::e::r=>simp[aS,Sv.Sub,cP]
  | [a,b,c,d]=>cases a<;>cases c<;>simp[aS,Sv.Sub,cP]<;>grind
 | _=>simp[aS,Sv.Sub]
def qw(k:Nat)(q:Rat):Prop:=fw k q.num∧fw k (q.den:Int)
theorem Ij(x:Int)(g:Nat):(x / g).natAbs<=x.natAbs:=aBj _ _
theorem mM{k:Nat}(h:1<=k):fw k 1:=ayr (iC (by omega) (by decide)) h
theorem kF(k:Nat):fw k 0:=by simp[fw,wid,bu]
theorem kc{k x y}(hx:fw k x)(hy:fw k y)(h1:1<=k):qw k (aBa x y):=by
 constructor
 ·unfold fw at *;rw[aBb];refine ayr (cH (by omega) (ayr (Ij _ _) ?_)) hx;rw[Int.natAbs_mul];rcases aAF y 0 with h | h | h
  ·rw[aBk h];simp
  ·subst h;simp
  ·rw[aBl h];simp
 ·unfold fw at *;rw[aBc];split
  ·exact mM h1
  ·refine ayr (cH (by omega) ?_) hy;rw[Int.natAbs_natCast];exact Nat.div_le_self _ _
theorem ax{k l q}(h:qw k q)(hk:k<=l):qw l q:=⟨gG h.1 hk,gG h.2 hk⟩
theorem kX{k l x y}(hx:qw k x)(hy:qw l y):qw (k+l+1) (x+y):=by rw[<-aBd x,<-aBd y,aBe _ _ (by have:=x.den_nz;omega) (by have:=y.den_nz;omega)];exact kc (Bj (k:=k+l) (iD hx.1 hy.2) (by rw[Nat.add_comm];exact iD hy.1 hx.2)) (gG (iD hx.2 hy.2) (by omega)) (by omega)
theorem fh{k x}(hx:qw k x):qw k (-x):=⟨by rw[Rat.neg_num];exact Po hx.1,hx.2⟩
theorem qd{k l x y}(hx:qw k x)(hy:qw l y):qw (k+l+1) (x - y):=by rw[aBf];exact kX hx (fh hy)
theorem cy{k l x y}(hx:qw k x)(hy:qw l y)(h1:1<=k+l):qw (k+l) (x*y):=by rw[<-aBd x,<-aBd y,aBg];exact kc (iD hx.1 hy.1) (iD hx.2 hy.2) h1
theorem Wm{k x}(hx:qw k x)(h1:1<=k):qw k x⁻¹:=by rw[aBh];exact kc hx.2 hx.1 h1
theorem mF{k l x y}(hx:qw k x)(hy:qw l y)(h1:1<=l):qw (k+l) (x / y):=by rw[aBi];exact cy hx (Wm hy h1) (by omega)
theorem mG{k x}(hx:fw k x)(h1:1<=k):qw k (x:Rat):=⟨by simpa using hx,by simpa using mM h1⟩
def j4(q:Rat):Prop:=qw 10000000000 q
theorem aq{k q}(h:qw k q)(hk:k<=10000000000):j4 q:=ax h hk
theorem zC(q:Rat):((q.den - 1:Nat):Int)=(q.den:Int) - 1:=by have:=q.den_nz;omega
theorem Su(q:Rat):dm ((q.den:Int) - 1)=.agg [.val (.bool false),.ro ((bO 4294967296 (q.den - 1)).map u32)]:=by rw[<-zC];simp[dm]
theorem Sz{k:Nat}{q:Rat}(h:qw k q):fw k ((q.den:Int) - 1):=by have h1:=h.2;unfold fw at *;have h2:=q.den_nz;refine ayr (cH (by omega) ?_) h1;omega
end Go.Proofs
namespace Go.Proofs
open Go.Sv Go Go.Pl
@[simp] theorem ahe(q:Rat):SV.agg ((aS q).cells.take 2)=dm q.num:=rfl
@[simp] theorem adZ(q:Rat):SV.agg (((aS q).cells.drop 2).take 2)=dm ((q.den:Int) - 1):=by rw[Su];rfl
@[simp] theorem Yb(x:Int):(dm x).cells=[.val (.bool (decide (x<0))),.ro ((bO 4294967296 x.natAbs).map u32)]:=rfl
theorem eI{q:Rat}(h:j4 q):fit q.num:=iX h.1 (by omega)
theorem iT{q:Rat}(h:j4 q):fit q.den:=iX h.2 (by omega)
theorem Nj{q:Rat}(h:j4 q):fit ((q.den:Int) - 1):=iX (Sz h) (by omega)
theorem EO:fit 1:=iX (mM (Nat.le_refl 1)) (by omega)
theorem lH(q:Rat)(h:j4 q):aE ay9 56 [aS q] (dm q.den):=by refine aj Tryz.func56 rfl (by simp) (λC hC=>?_);simp;refine aa.awH (.qs [0,1]<|.l 2 []<|.l 3 []<|.l 4 [1]<|.nil) ?_;simp;refine awI (oS 1 (by omega) (by omega)) ?_;simp;refine awI (uc _ 1 (Nj h) EO) ?_;simp
theorem iy(q:Rat):aE ay9 40 [aS q] (.val (.int .i64 q.num.sign)):=by refine aj Tryz.func40 rfl (by simp) (λC hC=>?_);simp;refine awI (pF _) ?_;simp
theorem iH(q:Rat):aE ay9 54 [aS q] (.val (.bool (decide (q.den=1)))):=by refine aj Tryz.func54 rfl (by simp) (λC hC=>?_);simp;refine awI (pF _) ?_;simp;omega
theorem jK(q:Rat):aE ay9 52 [aS q] (aS (-q)):=by refine aj Tryz.func52 rfl (by simp) (λC hC=>?_);simp;refine aa.awH (.qs [0,1,3,4]<|.l 2 []<|.qs [5]<|.l 6 [1]<|.nil) ?_;simp;refine awI (Aj _) ?_;simp;simp[aS,Sv.Sub,cP,<-zC]
theorem IM{n d:Int}(h:d≠0):(aBa n d).num=(if d<0 then -n else n) / (aA5 n d:Int):=by
 rw[aBb,aBm];rcases aAF d 0 with h' | h' | h'
 ·rw[if_pos h',aBk h'];simp
 ·exact absurd h' h
 ·rw[if_neg (by omega),aBl h'];simp
theorem Ie{n d:Int}(h:d≠0):((aBa n d).den:Int)=(if d<0 then -d else d) / (aA5 n d:Int):=by
 rw[aBc,if_neg h,aBm];have e:(if d<0 then -d else d)=(d.natAbs:Int):=by split<;>omega
 rw[e];simp
theorem pO{x y:Int}{q:Rat}(h:0<y)(hq:q=aBa x y):x / (aA5 x y:Int)=q.num∧y / (aA5 x y:Int)=q.den:=by rw[hq,IM (by omega),Ie (by omega)];rw[if_neg (by omega),if_neg (by omega)];exact⟨rfl,rfl⟩
theorem SQ{x y:Int}(hy:fit y)(h:y≠0):fit ((aA5 x y:Nat):Int):=DQ (by have:=Nat.le_of_dvd (by omega) (Nat.gcd_dvd_right x.natAbs y.natAbs);simpa[aA5]using this) hy
theorem NA(n d:Int)(hn:fit n)(hd:fit d):aE ay9 92 [dm n,dm d] (.bM [aS (aBa n d),.val (.bool (decide (d≠0)))]):=by
 refine aj Tryz.func92 rfl (by simp) (λC hC=>?_);obtain⟨q,hq⟩:∃q,q=aBa n d:=⟨_,rfl⟩;rw[<-hq];by_cases h0:d=0
 ·subst h0;simp;refine awI (pF 0) ?_;simp[aS,hq,Rat.divInt_zero,bu]
 ·simp;refine awI (pF _) ?_;simp[h0];refine awI (pF _) ?_;by_cases ab:d<0
  case' pos =>
   simp[ab];obtain⟨x,hx⟩:∃x,x = -n:=⟨_,rfl⟩;obtain⟨y,hy⟩:∃y,y = -d:=⟨_,rfl⟩;have n1:=Aj n;have n2:=Aj d;rw[<-hx]at n1;rw[<-hy]at n2;have ad:0<y:=by omega
   have ae:fit x:=by rw[hx];exact zp.2 hn
   have ac:fit y:=by rw[hy];exact zp.2 hd
   obtain⟨e1,e2⟩:=pO (x:=x) ad (hq.trans (by rw[hx,hy,Rat.neg_divInt_neg]));refine aa.awH (.qs [0,2]<|.l 1 []<|.l 3 []<|.l 4 [0]<|.l 5 [1]<|.nil) ?_;simp;refine awI n1 ?_;simp;refine awI n2 ?_;simp;clear hx hy n1 n2 ab hq hn hd
  case' neg =>
   simp[ab];have ad:0<d:=by omega
   obtain⟨e1,e2⟩:=pO ad hq;obtain⟨x,rfl⟩:∃x,x=n:=⟨_,rfl⟩;obtain⟨y,rfl⟩:∃y,y=d:=⟨_,rfl⟩;have ae:=hn;have ac:=hd;clear ab hq hn hd
  all_goals
   have al:fit (q.den:Int):=by rw[<-e2];exact DQ (aBj _ _) ac
   have af:=N2 q.den 1 al EO;refine awI (WS x y ae ac) ?_;have ag:=SQ (x:=x) ac (by omega);have am:(0:Int)<(aA5 x y:Nat):=by have:=Int.gcd_pos_of_ne_zero_right x (b:=y) (by omega);omega
   generalize ((aA5 x y:Nat):Int)=g at *;simp;refine aa.awH (.qs [0]<|.l 1 []<|.l 2 []<|.qs [3]<|.nil) ?_;simp;refine awI (oS 1 (by omega) (by omega)) ?_;simp;refine awI (Il g 1 (ayr ag (by omega)) (ayr EO (by omega))) ?_;by_cases ah:g=1
   case' pos =>
    subst ah;simp;simp at e1 e2;subst e1;subst e2
   case' neg =>
    simp[];have hc:¬(if g<1 then(-1:Int) else if 1<g then 1 else 0)=0:=by rw[if_neg (by omega),if_pos (by omega)];omega
    have ai:=Cb x g ae ag;have ak:=Cb y g ac ag;rw[e1]at ai;rw[e2]at ak;simp[hc];refine awI ai ?_;simp;refine awI ak ?_;simp
   all_goals
    refine aa.awH (.qs [0,1]<|.l 2 []<|.l 3 []<|.qs [4]<|.l 5 [2]<|.qs [6]<|.nil) ?_;simp;refine awI (oS 1 (by omega) (by omega)) ?_;simp;refine awI af ?_;simp[aS,Sv.Sub,cP,<-zC];try omega
theorem vT(n d:Int)(hn:fit n)(hd:fit d):aE ay9 105 [dm n,dm d] (aS (aBa n d)):=by refine aj Tryz.func105 rfl (by simp) (λC hC=>?_);simp;refine awI (NA n d hn hd) ?_;simp
theorem Tl(x:Int):aS (x:Rat)=.agg [.val (.bool (decide (x<0))),.ro ((bO 4294967296 x.natAbs).map u32),.val (.bool false),.ro []]:=by rfl
theorem y9(M:aC)(x:Int):Sub M (.agg [.val (.bool (decide (x<0))),.ro ((bO 4294967296 x.natAbs).map u32),.val (.bool false),.val (.slice none 0 0)]) (aS (x:Rat)):=by rw[Tl];simp[Sv.Sub,cP]
theorem Du(n:Int)(h1 : -9223372036854775808<=n)(h2:n<=9223372036854775807):aE ay9 51 [.val (.int .i64 n)] (aS (n:Rat)):=by refine aj Tryz.func51 rfl (by simp) (λC hC=>?_);simp;refine awI (oS n h1 h2) ?_;simp;exact y9 _ n
theorem pM{q:Rat}(h:q.den=1):q=(q.num:Rat):=Rat.ext (by simp) (by simp[h])
theorem Eh{a b:Int}(ha:fw 10000000000 a)(hb:fw 10000000000 b):fit (a*b):=iX (iD ha hb) (by omega)
theorem Bs(x y:Rat):x+y=aBa (x.num*y.den+y.num*x.den) (x.den*y.den):=by rw[<-aBe _ _ (by have:=x.den_nz;omega) (by have:=y.den_nz;omega),aBd,aBd]
theorem zE(x y:Rat):x*y=aBa (x.num*y.num) (x.den*y.den):=by rw[<-aBg,aBd,aBd]
theorem AZ(x y:Rat):x / y=aBa (x.num*y.den) (x.den*y.num):=by rw[<-aBg,aBd,<-aBh,aBi]
theorem pX(x y:Rat)(hx:j4 x)(hy:j4 y):aE ay9 129 [aS x,aS y] (aS (x+y)):=by
 refine aj Tryz.func129 rfl (by simp) (λC hC=>?_);simp;refine awI (iH x) ?_;by_cases h1:x.den=1
 case' pos =>
  simp[h1];refine awI (iH y) ?_;by_cases h2:y.den=1
  case pos =>
   simp[h2];obtain⟨s,hs⟩:∃s,s=x.num+y.num:=⟨_,rfl⟩;have ha:=uc x.num y.num (eI hx) (eI hy);rw[<-hs]at ha;have e:x+y=(s:Rat):=by rw[pM h1,pM h2,hs];simp
   rw[e];refine awI ha ?_;simp;exact y9 _ s
  case' neg=>simp[h2]
 case' neg=>simp[h1]
 all_goals
  refine aa.jB (.d 4<|.d 5<|.qs [0,2]<|.p 1<|.p 3<|.b ( .l 6 [3]<|.l 7 [4]<|.nil )) (by kernel_rfl) (by kernel_rfl) (by simp) ?_;simp;refine ff (lH x hx) (by simp) ?_;simp;refine ff (lH y hy) (by simp) ?_;simp;refine aa.awH (.qs [0,1,2,4,5,6,9,10]<|.l 3 []<|.l 7 []<|.l 8 []<|.l 11 []<|.l 12 []<|.l 13 [2]<|.nil) ?_;simp;refine awI (jI x.num y.den (eI hx) (iT hy)) ?_;simp;refine awI (jI y.num x.den (eI hy) (iT hx)) ?_;simp;refine awI (uc (x.num*y.den) (y.num*x.den) (Eh hx.1 hy.2) (Eh hy.1 hx.2)) ?_;simp;refine awI (jI x.den y.den (iT hx) (iT hy)) ?_;simp;refine awI (vT _ _ (iX (Bj (iD hx.1 hy.2) (iD hy.1 hx.2)) (by omega)) (Eh hx.2 hy.2)) ?_;simp;rw[<-Bs]
theorem pt(x y:Rat)(hx:j4 x)(hy:j4 y):aE ay9 94 [aS x,aS y] (aS (x - y)):=by refine aj Tryz.func94 rfl (by simp) (λC hC=>?_);simp;refine aa.awH (.qs [0,1]<|.l 2 []<|.l 3 []<|.l 4 [2]<|.nil) ?_;simp;refine awI (jK y) ?_;simp;refine awI (pX x (-y) hx (fh hy)) ?_;simp[aBf]
theorem pA(x y:Rat)(hx:j4 x)(hy:j4 y):aE ay9 53 [aS x,aS y] (aS (x*y)):=by
 refine aj Tryz.func53 rfl (by simp) (λC hC=>?_);simp;refine awI (iH x) ?_;by_cases h1:x.den=1
 case' pos =>
  simp[h1];refine awI (iH y) ?_;by_cases h2:y.den=1
  case pos =>
   simp[h2];obtain⟨s,hs⟩:∃s,s=x.num*y.num:=⟨_,rfl⟩;have ha:=jI x.num y.num (eI hx) (eI hy);rw[<-hs]at ha;have e:x*y=(s:Rat):=by rw[pM h1,pM h2,hs];simp
   rw[e];refine awI ha ?_;simp;exact y9 _ s
  case' neg=>simp[h2]
 case' neg=>simp[h1]
 all_goals
  refine aa.awH (.qs [0,1,2,3,5,7]<|.l 4 []<|.l 6 []<|.l 8 []<|.l 9 []<|.l 10 []<|.l 11 [2]<|.nil) ?_;simp;refine awI (jI x.num y.num (eI hx) (eI hy)) ?_;simp;refine awI (lH x hx) ?_;simp;refine awI (lH y hy) ?_;simp;refine awI (jI x.den y.den (iT hx) (iT hy)) ?_;simp;refine awI (vT _ _ (Eh hx.1 hy.1) (Eh hx.2 hy.2)) ?_;simp;rw[<-zE]
theorem rP(x y:Rat)(hx:j4 x)(hy:j4 y):aE ay9 121 [aS x,aS y] (.val (.int .i64 (if x<y then -1 else if y<x then 1 else 0))):=by
 refine aj Tryz.func121 rfl (by simp) (λC hC=>?_);simp;refine awI (iH x) ?_;by_cases h1:x.den=1
 case' pos =>
  simp[h1];refine awI (iH y) ?_;by_cases h2:y.den=1
  case pos =>
   simp[h2];have hc:=Il x.num y.num (ayr (eI hx) (by omega)) (ayr (eI hy) (by omega));have e1:x.num<y.num↔x<y:=by rw[aA9,h1,h2];simp
   have e2:y.num<x.num↔y<x:=by rw[aA9,h1,h2];simp
   simp only[e1,e2]at hc;refine awI hc ?_;simp
  case' neg=>simp[h2]
 case' neg=>simp[h1]
 all_goals
  refine aa.awH (.qs [0,1,2,5,6,7]<|.l 3 []<|.l 4 []<|.l 8 []<|.l 9 []<|.l 10 []<|.qs [11]<|.nil) ?_;have hc:=Il (x.num*y.den) (y.num*x.den) (ayr (Eh hx.1 hy.2) (by omega)) (ayr (Eh hy.1 hx.2) (by omega));simp only[<-aA9]at hc;simp;refine awI (lH y hy) ?_;simp;refine awI (jI x.num y.den (eI hx) (iT hy)) ?_;simp;refine awI (lH x hx) ?_;simp;refine awI (jI y.num x.den (eI hy) (iT hx)) ?_;simp;refine awI hc ?_;simp
theorem pB(x y:Rat)(hx:j4 x)(hy:j4 y):aE ay9 41 [aS x,aS y] (.bM [aS (x / y),.val (.bool (decide (y≠0)))]):=by refine aj Tryz.func41 rfl (by simp) (λC hC=>?_);simp;refine aa.awH (.qs [0,1,2,5,7,8]<|.l 3 []<|.l 4 []<|.l 6 []<|.l 9 []<|.l 10 []<|.qs [11,12]<|.l 13 [2]<|.qs [14]<|.nil) ?_;simp;refine awI (lH y hy) ?_;simp;refine awI (jI x.num y.den (eI hx) (iT hy)) ?_;simp;refine awI (lH x hx) ?_;simp;refine awI (jI x.den y.num (iT hx) (eI hy)) ?_;simp;refine awI (NA _ _ (Eh hx.1 hy.2) (Eh hx.2 hy.1)) ?_;rw[<-AZ];simp;exact λ_=>x.den_nz
end Go.Proofs

