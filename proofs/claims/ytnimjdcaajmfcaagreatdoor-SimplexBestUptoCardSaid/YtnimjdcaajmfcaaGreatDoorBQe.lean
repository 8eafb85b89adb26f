/- A text of the prover's own. -/
import Derived.Test.YtnimjdcaajmfcaaGreatDoorBFs
open Rat renaming lt_iff->auX,divInt->auY,num_divInt->auZ,den_divInt->au0,num_divInt_den->au1,divInt_add_divInt->au2,sub_eq_add_neg->au3,divInt_mul_divInt->au4,inv_def->au5,div_def->au6
open Int renaming natAbs_ediv_le_natAbs->au7,lt_trichotomy->auu,sign_eq_neg_one_of_neg->au8,sign_eq_one_of_pos->au9,gcd->auT,gcd_comm->ava
open Nat renaming le_trans->atj
open Go.Proofs.Tryz renaming prog->awW
set_option maxRecDepth 10000
namespace Go.Pl
def btw:Nat->Rat->Rat->Rat
 | 0,_,_=>0
 | n+1,low,high =>
  if(low.ceil:Rat)<=high then(low.ceil:Rat)
  else(low.floor:Rat)+(btw n (high - low.floor)⁻¹ (low - low.floor)⁻¹)⁻¹
theorem wb{q:Rat}:0<q.num↔0<q:=by rw[auX];simp
end Go.Pl
namespace Go.Proofs
open Go.Sv Go Go.Pl
def aU(q:Rat):SV:=.agg [.val (.bool (decide (q.num<0))),.ro ((bO 4294967296 q.num.natAbs).map u32),.val (.bool false),.ro ((bO 4294967296 (q.den - 1)).map u32)]
@[simp] theorem adh(x:Rat):(aU x).gJ=4:=rfl
@[simp] theorem WL(x:Rat):(aU x).aV=false:=rfl
@[simp] theorem Wq(x:Rat):(aU x).isAgg=true:=rfl
@[simp] theorem ZZ(x:Rat):(aU x).pure=true:=rfl
@[simp] theorem ake(n:Nat)(x:Rat):(aU x).lt n=true:=rfl
@[simp] theorem Yk(k:Nat)(x:Rat):(aU x).cj k=false:=rfl
@[simp] theorem agh(M:aD)(x:Rat)(y:SV):Sub M (aU x) y=(y=aU x):=by
 cases y with
 | agg l =>
  match l with
  | []=>simp[aU,cK]
  | [a]=>simp[aU,Sv.Sub,cK]
  | [a,b]=>simp[aU,Sv.Sub,cK]
  | [a,b,c]=>simp[aU,Sv.Sub,cK]
  | a::b::c::d::e::r=>simp[aU,Sv.Sub,cK]
  | [a,b,c,d]=>cases a<;>cases c<;>simp[aU,Sv.Sub,cK]<;>grind
 | _=>simp[aU,Sv.Sub]
def qw(k:Nat)(q:Rat):Prop:=fw k q.num∧fw k (q.den:Int)
theorem GV(x:Int)(g:Nat):(x / g).natAbs<=x.natAbs:=au7 _ _
theorem k7{k:Nat}(h:1<=k):fw k 1:=atj (iS (by omega) (by decide)) h
theorem jK(k:Nat):fw k 0:=by simp[fw,wid,bj]
theorem jx{k x y}(hx:fw k x)(hy:fw k y)(h1:1<=k):qw k (auY x y):=by
 constructor
 ·unfold fw at *;rw[auZ];refine atj (cq (by omega) (atj (GV _ _) ?_)) hx;rw[Int.natAbs_mul];rcases auu y 0 with h | h | h
  ·rw[au8 h];simp
  ·subst h;simp
  ·rw[au9 h];simp
 ·unfold fw at *;rw[au0];split
  ·exact k7 h1
  ·refine atj (cq (by omega) ?_) hy;rw[Int.natAbs_natCast];exact Nat.div_le_self _ _
theorem ay{k l q}(h:qw k q)(hk:k<=l):qw l q:=⟨fQ h.1 hk,fQ h.2 hk⟩
theorem kg{k l x y}(hx:qw k x)(hy:qw l y):qw (k+l+1) (x+y):=by rw[<-au1 x,<-au1 y,au2 _ _ (by have:=x.den_nz;omega) (by have:=y.den_nz;omega)];exact jx (yX (k:=k+l) (gV hx.1 hy.2) (by rw[Nat.add_comm];exact gV hy.1 hx.2)) (fQ (gV hx.2 hy.2) (by omega)) (by omega)
theorem fh{k x}(hx:qw k x):qw k (-x):=⟨by rw[Rat.neg_num];exact Mb hx.1,hx.2⟩
theorem nL{k l x y}(hx:qw k x)(hy:qw l y):qw (k+l+1) (x - y):=by rw[au3];exact kg hx (fh hy)
theorem cx{k l x y}(hx:qw k x)(hy:qw l y)(h1:1<=k+l):qw (k+l) (x*y):=by rw[<-au1 x,<-au1 y,au4];exact jx (gV hx.1 hy.1) (gV hx.2 hy.2) h1
theorem S8{k x}(hx:qw k x)(h1:1<=k):qw k x⁻¹:=by rw[au5];exact jx hx.2 hx.1 h1
theorem kX{k l x y}(hx:qw k x)(hy:qw l y)(h1:1<=l):qw (k+l) (x / y):=by rw[au6];exact cx hx (S8 hy h1) (by omega)
theorem mE{k x}(hx:fw k x)(h1:1<=k):qw k (x:Rat):=⟨by simpa using hx,by simpa using k7 h1⟩
def kc(q:Rat):Prop:=qw 10000000000 q
theorem ao{k q}(h:qw k q)(hk:k<=10000000000):kc q:=ay h hk
theorem xq(q:Rat):((q.den - 1:Nat):Int)=(q.den:Int) - 1:=by have:=q.den_nz;omega
theorem O6(q:Rat):cR ((q.den:Int) - 1)=.agg [.val (.bool false),.ro ((bO 4294967296 (q.den - 1)).map u32)]:=by rw[<-xq];simp[cR]
theorem P3{k:Nat}{q:Rat}(h:qw k q):fw k ((q.den:Int) - 1):=by have h1:=h.2;unfold fw at *;have h2:=q.den_nz;refine atj (cq (by omega) ?_) h1;omega
end Go.Proofs
namespace Go.Proofs
open Go.Sv Go Go.Pl
@[simp] theorem ago(q:Rat):SV.agg ((aU q).cells.take 2)=cR q.num:=rfl
@[simp] theorem aan(q:Rat):SV.agg (((aU q).cells.drop 2).take 2)=cR ((q.den:Int) - 1):=by rw[O6];rfl
@[simp] theorem VX(x:Int):(cR x).cells=[.val (.bool (decide (x<0))),.ro ((bO 4294967296 x.natAbs).map u32)]:=rfl
theorem eJ{q:Rat}(h:kc q):fit q.num:=iu h.1 (by omega)
theorem iK{q:Rat}(h:kc q):fit q.den:=iu h.2 (by omega)
theorem K8{q:Rat}(h:kc q):fit ((q.den:Int) - 1):=iu (P3 h) (by omega)
theorem BS:fit 1:=iu (k7 (Nat.le_refl 1)) (by omega)
theorem kE(q:Rat)(h:kc q):aG awW 56 [aU q] (cR q.den):=by refine aj Tryz.func56 rfl (by simp) (λC hC=>?_);simp;refine aa.asj (.qs [0,1]<|.l 2 []<|.l 3 []<|.l 4 [1]<|.nil) ?_;simp;refine asl (m4 1 (by omega) (by omega)) ?_;simp;refine asl (rZ _ 1 (K8 h) BS) ?_;simp
theorem gM(q:Rat):aG awW 40 [aU q] (.val (.int .i64 q.num.sign)):=by refine aj Tryz.func40 rfl (by simp) (λC hC=>?_);simp;refine asl (nF _) ?_;simp
theorem gY(q:Rat):aG awW 54 [aU q] (.val (.bool (decide (q.den=1)))):=by refine aj Tryz.func54 rfl (by simp) (λC hC=>?_);simp;refine asl (nF _) ?_;simp;omega
theorem iZ(q:Rat):aG awW 52 [aU q] (aU (-q)):=by refine aj Tryz.func52 rfl (by simp) (λC hC=>?_);simp;refine aa.asj (.qs [0,1,3,4]<|.l 2 []<|.qs [5]<|.l 6 [1]<|.nil) ?_;simp;refine asl (yk _) ?_;simp;simp[aU,Sv.Sub,cK,<-xq]
theorem FL{n d:Int}(h:d≠0):(auY n d).num=(if d<0 then -n else n) / (auT n d:Int):=by
 rw[auZ,ava];rcases auu d 0 with h' | h' | h'
 ·rw[if_pos h',au8 h'];simp
 ·exact absurd h' h
 ·rw[if_neg (by omega),au9 h'];simp
theorem GZ{n d:Int}(h:d≠0):((auY n d).den:Int)=(if d<0 then -d else d) / (auT n d:Int):=by
 rw[au0,if_neg h,ava];have e:(if d<0 then -d else d)=(d.natAbs:Int):=by split<;>omega
 rw[e];simp
theorem oG{x y:Int}{q:Rat}(h:0<y)(hq:q=auY x y):x / (auT x y:Int)=q.num∧y / (auT x y:Int)=q.den:=by rw[hq,FL (by omega),GZ (by omega)];rw[if_neg (by omega),if_neg (by omega)];exact⟨rfl,rfl⟩
theorem Od{x y:Int}(hy:fit y)(h:y≠0):fit ((auT x y:Nat):Int):=Ch (by have:=Nat.le_of_dvd (by omega) (Nat.gcd_dvd_right x.natAbs y.natAbs);simpa[auT]using this) hy
theorem M5(n d:Int)(hn:fit n)(hd:fit d):aG awW 92 [cR n,cR d] (.bP [aU (auY n d),.val (.bool (decide (d≠0)))]):=by
 refine aj Tryz.func92 rfl (by simp) (λC hC=>?_);obtain⟨q,hq⟩:∃q,q=auY n d:=⟨_,rfl⟩;rw[<-hq];by_cases h0:d=0
 ·subst h0;simp;refine asl (nF 0) ?_;simp[aU,hq,Rat.divInt_zero,bj]
 ·simp;refine asl (nF _) ?_;simp[h0];refine asl (nF _) ?_;by_cases ab:d<0
  case' pos =>
   simp[ab];obtain⟨x,hx⟩:∃x,x = -n:=⟨_,rfl⟩;obtain⟨y,hy⟩:∃y,y = -d:=⟨_,rfl⟩;have n1:=yk n;have n2:=yk d;rw[<-hx]at n1;rw[<-hy]at n2;have ad:0<y:=by omega
   have ae:fit x:=by rw[hx];exact wU.2 hn
   have ac:fit y:=by rw[hy];exact wU.2 hd
   obtain⟨e1,e2⟩:=oG (x:=x) ad (hq.trans (by rw[hx,hy,Rat.neg_divInt_neg]));refine aa.asj (.qs [0,2]<|.l 1 []<|.l 3 []<|.l 4 [0]<|.l 5 [1]<|.nil) ?_;simp;refine asl n1 ?_;simp;refine asl n2 ?_;simp;clear hx hy n1 n2 ab hq hn hd
  case' neg =>
   simp[ab];have ad:0<d:=by omega
   obtain⟨e1,e2⟩:=oG ad hq;obtain⟨x,rfl⟩:∃x,x=n:=⟨_,rfl⟩;obtain⟨y,rfl⟩:∃y,y=d:=⟨_,rfl⟩;have ae:=hn;have ac:=hd;clear ab hq hn hd
  all_goals
   have al:fit (q.den:Int):=by rw[<-e2];exact Ch (au7 _ _) ac
   have af:=Lb q.den 1 al BS;refine asl (Sy x y ae ac) ?_;have ag:=Od (x:=x) ac (by omega);have am:(0:Int)<(auT x y:Nat):=by have:=Int.gcd_pos_of_ne_zero_right x (b:=y) (by omega);omega
   generalize ((auT x y:Nat):Int)=g at *;simp;refine aa.asj (.qs [0]<|.l 1 []<|.l 2 []<|.qs [3]<|.nil) ?_;simp;refine asl (m4 1 (by omega) (by omega)) ?_;simp;refine asl (GF g 1 (atj ag (by omega)) (atj BS (by omega))) ?_;by_cases ah:g=1
   case' pos =>
    subst ah;simp;simp at e1 e2;subst e1;subst e2
   case' neg =>
    simp[];have hc:¬(if g<1 then(-1:Int) else if 1<g then 1 else 0)=0:=by rw[if_neg (by omega),if_pos (by omega)];omega
    have ai:=Ar x g ae ag;have ak:=Ar y g ac ag;rw[e1]at ai;rw[e2]at ak;simp[hc];refine asl ai ?_;simp;refine asl ak ?_;simp
   all_goals
    refine aa.asj (.qs [0,1]<|.l 2 []<|.l 3 []<|.qs [4]<|.l 5 [2]<|.qs [6]<|.nil) ?_;simp;refine asl (m4 1 (by omega) (by omega)) ?_;simp;refine asl af ?_;simp[aU,Sv.Sub,cK,<-xq];try omega
theorem sH(n d:Int)(hn:fit n)(hd:fit d):aG awW 105 [cR n,cR d] (aU (auY n d)):=by refine aj Tryz.func105 rfl (by simp) (λC hC=>?_);simp;refine asl (M5 n d hn hd) ?_;simp
theorem Pg(x:Int):aU (x:Rat)=.agg [.val (.bool (decide (x<0))),.ro ((bO 4294967296 x.natAbs).map u32),.val (.bool false),.ro []]:=by rfl
theorem wD(M:aD)(x:Int):Sub M (.agg [.val (.bool (decide (x<0))),.ro ((bO 4294967296 x.natAbs).map u32),.val (.bool false),.val (.slice none 0 0)]) (aU (x:Rat)):=by rw[Pg];simp[Sv.Sub,cK]
theorem CC(n:Int)(h1 : -9223372036854775808<=n)(h2:n<=9223372036854775807):aG awW 51 [.val (.int .i64 n)] (aU (n:Rat)):=by refine aj Tryz.func51 rfl (by simp) (λC hC=>?_);simp;refine asl (m4 n h1 h2) ?_;simp;exact wD _ n
theorem ob{q:Rat}(h:q.den=1):q=(q.num:Rat):=Rat.ext (by simp) (by simp[h])
theorem CR{a b:Int}(ha:fw 10000000000 a)(hb:fw 10000000000 b):fit (a*b):=iu (gV ha hb) (by omega)
theorem yT(x y:Rat):x+y=auY (x.num*y.den+y.num*x.den) (x.den*y.den):=by rw[<-au2 _ _ (by have:=x.den_nz;omega) (by have:=y.den_nz;omega),au1,au1]
theorem xW(x y:Rat):x*y=auY (x.num*y.num) (x.den*y.den):=by rw[<-au4,au1,au1]
theorem Gm(x y:Rat):x / y=auY (x.num*y.den) (x.den*y.num):=by rw[<-au4,au1,<-au5,au6]
theorem nW(x y:Rat)(hx:kc x)(hy:kc y):aG awW 129 [aU x,aU y] (aU (x+y)):=by
 refine aj Tryz.func129 rfl (by simp) (λC hC=>?_);simp;refine asl (gY x) ?_;by_cases h1:x.den=1
 case' pos =>
  simp[h1];refine asl (gY y) ?_;by_cases h2:y.den=1
  case pos =>
   simp[h2];obtain⟨s,hs⟩:∃s,s=x.num+y.num:=⟨_,rfl⟩;have ha:=rZ x.num y.num (eJ hx) (eJ hy);rw[<-hs]at ha;have e:x+y=(s:Rat):=by rw[ob h1,ob h2,hs];simp
   rw[e];refine asl ha ?_;simp;exact wD _ s
  case' neg=>simp[h2]
 case' neg=>simp[h1]
 all_goals
  refine aa.jZ (.d 4<|.d 5<|.qs [0,2]<|.p 1<|.p 3<|.b ( .l 6 [3]<|.l 7 [4]<|.nil )) (by kernel_rfl) (by kernel_rfl) (by simp) ?_;simp;refine fG (kE x hx) (by simp) ?_;simp;refine fG (kE y hy) (by simp) ?_;simp;refine aa.asj (.qs [0,1,2,4,5,6,9,10]<|.l 3 []<|.l 7 []<|.l 8 []<|.l 11 []<|.l 12 []<|.l 13 [2]<|.nil) ?_;simp;refine asl (je x.num y.den (eJ hx) (iK hy)) ?_;simp;refine asl (je y.num x.den (eJ hy) (iK hx)) ?_;simp;refine asl (rZ (x.num*y.den) (y.num*x.den) (CR hx.1 hy.2) (CR hy.1 hx.2)) ?_;simp;refine asl (je x.den y.den (iK hx) (iK hy)) ?_;simp;refine asl (sH _ _ (iu (yX (gV hx.1 hy.2) (gV hy.1 hx.2)) (by omega)) (CR hx.2 hy.2)) ?_;simp;rw[<-yT]
theorem ot(x y:Rat)(hx:kc x)(hy:kc y):aG awW 94 [aU x,aU y] (aU (x - y)):=by refine aj Tryz.func94 rfl (by simp) (λC hC=>?_);simp;refine aa.asj (.qs [0,1]<|.l 2 []<|.l 3 []<|.l 4 [2]<|.nil) ?_;simp;refine asl (iZ y) ?_;simp;refine asl (nW x (-y) hx (fh hy)) ?_;simp[au3]
theorem nV(x y:Rat)(hx:kc x)(hy:kc y):aG awW 53 [aU x,aU y] (aU (x*y)):=by
 refine aj Tryz.func53 rfl (by simp) (λC hC=>?_);simp;refine asl (gY x) ?_;by_cases h1:x.den=1
 case' pos =>
  simp[h1];refine asl (gY y) ?_;by_cases h2:y.den=1
  case pos =>
   simp[h2];obtain⟨s,hs⟩:∃s,s=x.num*y.num:=⟨_,rfl⟩;have ha:=je x.num y.num (eJ hx) (eJ hy);rw[<-hs]at ha;have e:x*y=(s:Rat):=by rw[ob h1,ob h2,hs];simp
   rw[e];refine asl ha ?_;simp;exact wD _ s
  case' neg=>simp[h2]
 case' neg=>simp[h1]
 all_goals
  refine aa.asj (.qs [0,1,2,3,5,7]<|.l 4 []<|.l 6 []<|.l 8 []<|.l 9 []<|.l 10 []<|.l 11 [2]<|.nil) ?_;simp;refine asl (je x.num y.num (eJ hx) (eJ hy)) ?_;simp;refine asl (kE x hx) ?_;simp;refine asl (kE y hy) ?_;simp;refine asl (je x.den y.den (iK hx) (iK hy)) ?_;simp;refine asl (sH _ _ (CR hx.1 hy.1) (CR hx.2 hy.2)) ?_;simp;rw[<-xW]
theorem p6(x y:Rat)(hx:kc x)(hy:kc y):aG awW 121 [aU x,aU y] (.val (.int .i64 (if x<y then -1 else if y<x then 1 else 0))):=by
 refine aj Tryz.func121 rfl (by simp) (λC hC=>?_);simp;refine asl (gY x) ?_;by_cases h1:x.den=1
 case' pos =>
  simp[h1];refine asl (gY y) ?_;by_cases h2:y.den=1
  case pos =>
   simp[h2];have hc:=GF x.num y.num (atj (eJ hx) (by omega)) (atj (eJ hy) (by omega));have e1:x.num<y.num↔x<y:=by rw[auX,h1,h2];simp
   have e2:y.num<x.num↔y<x:=by rw[auX,h1,h2];simp
   simp only[e1,e2]at hc;refine asl hc ?_;simp
  case' neg=>simp[h2]
 case' neg=>simp[h1]
 all_goals
  refine aa.asj (.qs [0,1,2,5,6,7]<|.l 3 []<|.l 4 []<|.l 8 []<|.l 9 []<|.l 10 []<|.qs [11]<|.nil) ?_;have hc:=GF (x.num*y.den) (y.num*x.den) (atj (CR hx.1 hy.2) (by omega)) (atj (CR hy.1 hx.2) (by omega));simp only[<-auX]at hc;simp;refine asl (kE y hy) ?_;simp;refine asl (je x.num y.den (eJ hx) (iK hy)) ?_;simp;refine asl (kE x hx) ?_;simp;refine asl (je y.num x.den (eJ hy) (iK hx)) ?_;simp;refine asl hc ?_;simp
theorem oC(x y:Rat)(hx:kc x)(hy:kc y):aG awW 41 [aU x,aU y] (.bP [aU (x / y),.val (.bool (decide (y≠0)))]):=by refine aj Tryz.func41 rfl (by simp) (λC hC=>?_);simp;refine aa.asj (.qs [0,1,2,5,7,8]<|.l 3 []<|.l 4 []<|.l 6 []<|.l 9 []<|.l 10 []<|.qs [11,12]<|.l 13 [2]<|.qs [14]<|.nil) ?_;simp;refine asl (kE y hy) ?_;simp;refine asl (je x.num y.den (eJ hx) (iK hy)) ?_;simp;refine asl (kE x hx) ?_;simp;refine asl (je x.den y.num (iK hx) (eJ hy)) ?_;simp;refine asl (M5 _ _ (CR hx.1 hy.2) (CR hx.2 hy.1)) ?_;rw[<-Gm];simp;exact λ_=>x.den_nz
end Go.Proofs

