/- A text of the prover's own. -/
import Derived.Test.YtmghjkkjaolpgaaGreatDoorWFs
import Derived.Test.YtmghjkkjaolpgaaGreatDoorWVz
open Int renaming natAbs_ediv_le_natAbs→anf,lt_trichotomy→amM,sign_eq_neg_one_of_neg→ang,sign_eq_one_of_pos→anh,gcd→ana,gcd_comm→ani
open Nat renaming le_trans→alJ
open Rat renaming divInt→anj,num_divInt→ank,den_divInt→anl,num_divInt_den→anm,divInt_add_divInt→ann,sub_eq_add_neg→ano,divInt_mul_divInt→anp,inv_def→anq,div_def→anr,lt_iff→ans
set_option maxRecDepth 10000
namespace Go.Pl
def btw:Nat→Rat→Rat→Rat
 | 0,_,_=>0
 | n+1,low,high =>
  if(low.ceil:Rat)≤high then(low.ceil:Rat)
  else(low.floor:Rat)+(btw n (high - low.floor)⁻¹ (low - low.floor)⁻¹)⁻¹
end Go.Pl
namespace Go.Proofs
open Go.Sv Go Go.Pl
def bs(q:Rat):SV:=.agg [.val (.bool (decide (q.num<0))),.ro ((bC 4294967296 q.num.natAbs).map u32),.val (.bool false),.ro ((bC 4294967296 (q.den - 1)).map u32)]
@[simp] theorem X1(x:Rat):(bs x).eW=4:=rfl
@[simp] theorem QW(x:Rat):(bs x).aO=false:=rfl
@[simp] theorem Qr(x:Rat):(bs x).isAgg=true:=rfl
@[simp] theorem TR(x:Rat):(bs x).pure=true:=rfl
@[simp] theorem aea(n:Nat)(x:Rat):(bs x).lt n=true:=rfl
@[simp] theorem V4(k:Nat)(x:Rat):(bs x).bD k=false:=rfl
@[simp] theorem aby(M:aJ)(x:Rat)(y:SV):Sub M (bs x) y=(y=bs x):=by
 cases y with
 | agg l =>
  match l with
  | []=>simp[bs,Sv.Sub,cz]
  | [a]=>simp[bs,Sv.Sub,cz]
  | [a,b]=>simp[bs,Sv.Sub,cz]
  | [a,b,c]=>simp[bs,Sv.Sub,cz]
  | a::b::c::d::e::r=>simp[bs,Sv.Sub,cz]
  | [a,b,c,d]=>cases a<;>cases c<;>simp[bs,Sv.Sub,cz]<;>grind
 | _=>simp[bs,Sv.Sub]
def qw(k:Nat)(q:Rat):Prop:=fw k q.num∧fw k (q.den:Int)
theorem B9(x:Int)(g:Nat):(x / g).natAbs≤x.natAbs:=anf _ _
theorem p6{k:Nat}(h:1≤k):fw k 1:=alJ (ir (by omega) (by decide)) h
theorem tN(k:Nat):fw k 0:=by simp[fw,wid,aZ]
theorem jD{k x y}(hx:fw k x)(hy:fw k y)(h1:1≤k):qw k (anj x y):=by
 constructor
 ·unfold fw at *;rw[ank];refine alJ (ch (by omega) (alJ (B9 _ _) ?_)) hx;rw[Int.natAbs_mul];rcases amM y 0 with h | h | h
  ·rw[ang h];simp
  ·subst h;simp
  ·rw[anh h];simp
 ·unfold fw at *;rw[anl];split
  ·exact p6 h1
  ·refine alJ (ch (by omega) ?_) hy;rw[Int.natAbs_natCast];exact Nat.div_le_self _ _
theorem ah{k l q}(h:qw k q)(hk:k≤l):qw l q:=⟨fo h.1 hk,fo h.2 hk⟩
theorem mO{k l x y}(hx:qw k x)(hy:qw l y):qw (k+l+1) (x+y):=by
 rw[←anm x,←anm y,ann _ _ (by have:=x.den_nz;omega) (by have:=y.den_nz;omega)];exact jD (v8 (k:=k+l) (fQ hx.1 hy.2) (by rw[Nat.add_comm];exact fQ hy.1 hx.2)) (fo (fQ hx.2 hy.2) (by omega)) (by omega)
theorem iX{k x}(hx:qw k x):qw k (-x):=⟨by rw[Rat.neg_num];exact Ca hx.1,hx.2⟩
theorem yC{k l x y}(hx:qw k x)(hy:qw l y):qw (k+l+1) (x - y):=by rw[ano];exact mO hx (iX hy)
theorem bM{k l x y}(hx:qw k x)(hy:qw l y)(h1:1≤k+l):qw (k+l) (x*y):=by
 rw[←anm x,←anm y,anp];exact jD (fQ hx.1 hy.1) (fQ hx.2 hy.2) h1
theorem Mk{k x}(hx:qw k x)(h1:1≤k):qw k x⁻¹:=by
 rw[anq];exact jD hx.2 hx.1 h1
theorem iI{k l x y}(hx:qw k x)(hy:qw l y)(h1:1≤l):qw (k+l) (x / y):=by
 rw[anr];exact bM hx (Mk hy h1) (by omega)
theorem Cj{k x}(hx:fw k x)(h1:1≤k):qw k (x:Rat):=⟨by simpa using hx,by simpa using p6 h1⟩
def bQ(q:Rat):Prop:=qw 10000000000 q
theorem dN{k q}(h:qw k q)(hk:k≤10000000000):bQ q:=ah h hk
theorem u4(q:Rat):((q.den - 1:Nat):Int)=(q.den:Int) - 1:=by have:=q.den_nz;omega
theorem KA(q:Rat):cK ((q.den:Int) - 1)=.agg [.val (.bool false),.ro ((bC 4294967296 (q.den - 1)).map u32)]:=by
 rw[←u4];simp[cK]
theorem JJ{k:Nat}{q:Rat}(h:qw k q):fw k ((q.den:Int) - 1):=by
 have h1:=h.2;unfold fw at *;have h2:=q.den_nz;refine alJ (ch (by omega) ?_) h1;omega
end Go.Proofs
namespace Go.Proofs
open Go.Sv Go Go.Pl
@[simp] theorem Ym(q:Rat):SV.agg ((bs q).cells.take 2)=cK q.num:=rfl
@[simp] theorem WQ(q:Rat):SV.agg (((bs q).cells.drop 2).take 2)=cK ((q.den:Int) - 1):=by rw[KA];rfl
@[simp] theorem Ra(x:Int):(cK x).cells=[.val (.bool (decide (x<0))),.ro ((bC 4294967296 x.natAbs).map u32)]:=rfl
theorem dR{q:Rat}(h:bQ q):fit q.num:=gJ h.1 (by omega)
theorem fM{q:Rat}(h:bQ q):fit q.den:=gJ h.2 (by omega)
theorem Gq{q:Rat}(h:bQ q):fit ((q.den:Int) - 1):=gJ (JJ h) (by omega)
theorem zx:fit 1:=gJ (p6 (Nat.le_refl 1)) (by omega)
theorem jK(q:Rat)(h:bQ q):aF Tryz.prog 72 [bs q] (cK q.den):=by
 refine aj Tryz.func72 rfl (by simp) (fun C hC=>?_);simp;refine aa.akJ (.qs [0,1]<|.l 2 []<|.l 3 []<|.l 4 [1]<|.nil) ?_;simp;refine akK (lJ 1 (by omega) (by omega)) ?_;simp;refine akK (pH _ 1 (Gq h) zx) ?_;simp
theorem C9(q:Rat):aF Tryz.prog 147 [bs q] (cK q.num):=by
 refine aj Tryz.func147 rfl (by simp) (fun C hC=>?_);simp
theorem Gl(q:Rat):aF Tryz.prog 59 [bs q] (.val (.int .i64 q.num.sign)):=by
 refine aj Tryz.func59 rfl (by simp) (fun C hC=>?_);simp;refine akK (mv _) ?_;simp
theorem eD(q:Rat):aF Tryz.prog 70 [bs q] (.val (.bool (decide (q.den=1)))):=by
 refine aj Tryz.func70 rfl (by simp) (fun C hC=>?_);simp;refine akK (mv _) ?_;simp;omega
theorem zE(q:Rat):aF Tryz.prog 101 [bs q] (bs (-q)):=by
 refine aj Tryz.func101 rfl (by simp) (fun C hC=>?_);simp;refine aa.akJ (.qs [0,1,3,4]<|.l 2 []<|.qs [5]<|.l 6 [1]<|.nil) ?_;simp;refine akK (rT _) ?_;simp;simp[bs,Sv.Sub,cz,←u4]
theorem BJ{n d:Int}(h:d≠0):(anj n d).num=(if d<0 then -n else n) / (ana n d:Int):=by
 rw[ank,ani];rcases amM d 0 with h' | h' | h'
 ·rw[if_pos h',ang h'];simp
 ·exact absurd h' h
 ·rw[if_neg (by omega),anh h'];simp
theorem Cr{n d:Int}(h:d≠0):((anj n d).den:Int)=(if d<0 then -d else d) / (ana n d:Int):=by
 rw[anl,if_neg h,ani];have e:(if d<0 then -d else d)=(d.natAbs:Int):=by split<;>omega
 rw[e];simp
theorem mP{x y:Int}{q:Rat}(h:0<y)(hq:q=anj x y):x / (ana x y:Int)=q.num∧y / (ana x y:Int)=q.den:=by
 rw[hq,BJ (by omega),Cr (by omega)];rw[if_neg (by omega),if_neg (by omega)];exact⟨rfl,rfl⟩
theorem Km{x y:Int}(hy:fit y)(h:y≠0):fit ((ana x y:Nat):Int):=x3 (by
 have:=Nat.le_of_dvd (by omega) (Nat.gcd_dvd_right x.natAbs y.natAbs);simpa[ana]using this) hy
theorem yq(n d:Int)(hn:fit n)(hd:fit d):aF Tryz.prog 133 [cK n,cK d] (.bO [bs (anj n d),.val (.bool (decide (d≠0)))]):=by
 refine aj Tryz.func133 rfl (by simp) (fun C hC=>?_);obtain⟨q,hq⟩:∃q,q=anj n d:=⟨_,rfl⟩;rw[←hq];by_cases h0:d=0
 ·subst h0;simp;refine akK (mv 0) ?_;simp[bs,hq,Rat.divInt_zero,aZ]
 ·simp;refine akK (mv _) ?_;simp[h0];refine akK (mv _) ?_;by_cases hneg:d<0
  case' pos =>
   simp[hneg];obtain⟨x,hx⟩:∃x,x = -n:=⟨_,rfl⟩;obtain⟨y,hy⟩:∃y,y = -d:=⟨_,rfl⟩;have n1:=rT n;have n2:=rT d;rw[←hx]at n1;rw[←hy]at n2;have hy0:0<y:=by omega
   have hxf:fit x:=by rw[hx];exact uq.2 hn
   have hyf:fit y:=by rw[hy];exact uq.2 hd
   obtain⟨e1,e2⟩:=mP (x:=x) hy0 (hq.trans (by rw[hx,hy,Rat.neg_divInt_neg]));refine aa.akJ (.qs [0,2]<|.l 1 []<|.l 3 []<|.l 4 [0]<|.l 5 [1]<|.nil) ?_;simp;refine akK n1 ?_;simp;refine akK n2 ?_;simp;clear hx hy n1 n2 hneg hq hn hd
  case' neg =>
   simp[hneg];have hy0:0<d:=by omega
   obtain⟨e1,e2⟩:=mP hy0 hq;obtain⟨x,rfl⟩:∃x,x=n:=⟨_,rfl⟩;obtain⟨y,rfl⟩:∃y,y=d:=⟨_,rfl⟩;have hxf:=hn;have hyf:=hd;clear hneg hq hn hd
  all_goals
   have hqd:fit (q.den:Int):=by rw[←e2];exact x3 (anf _ _) hyf
   have hsub:=Ge q.den 1 hqd zx;refine akK (L9 x y hxf hyf) ?_;have hgf:=Km (x:=x) hyf (by omega);have hg0:(0:Int)<(ana x y:Nat):=by have:=Int.gcd_pos_of_ne_zero_right x (b:=y) (by omega);omega
   generalize ((ana x y:Nat):Int)=g at *;simp;refine aa.akJ (.qs [0]<|.l 1 []<|.l 2 []<|.qs [3]<|.nil) ?_;simp;refine akK (lJ 1 (by omega) (by omega)) ?_;simp;refine akK (CI g 1 (alJ hgf (by omega)) (alJ zx (by omega))) ?_;by_cases hg1:g=1
   case' pos =>
    subst hg1;simp;simp at e1 e2;subst e1;subst e2
   case' neg =>
    simp[hg1];have hc:¬(if g<1 then(-1:Int) else if 1<g then 1 else 0)=0:=by rw[if_neg (by omega),if_pos (by omega)];omega
    have dm1:=rR x g hxf hgf;have dm2:=rR y g hyf hgf;rw[e1]at dm1;rw[e2]at dm2;simp[hc];refine akK dm1 ?_;simp;refine akK dm2 ?_;simp
   all_goals
    refine aa.akJ (.qs [0,1]<|.l 2 []<|.l 3 []<|.qs [4]<|.l 5 [2]<|.qs [6]<|.nil) ?_;simp;refine akK (lJ 1 (by omega) (by omega)) ?_;simp;refine akK hsub ?_;simp[bs,Sv.Sub,cz,←u4];try omega
theorem qJ(n d:Int)(hn:fit n)(hd:fit d):aF Tryz.prog 81 [cK n,cK d] (bs (anj n d)):=by
 refine aj Tryz.func81 rfl (by simp) (fun C hC=>?_);simp;refine akK (yq n d hn hd) ?_;simp
theorem JU(x:Int):bs (x:Rat)=.agg [.val (.bool (decide (x<0))),.ro ((bC 4294967296 x.natAbs).map u32),.val (.bool false),.ro []]:=by
 rfl
theorem uj(M:aJ)(x:Int):Sub M (.agg [.val (.bool (decide (x<0))),.ro ((bC 4294967296 x.natAbs).map u32),.val (.bool false),.val (.slice none 0 0)]) (bs (x:Rat)):=by
 rw[JU];simp[Sv.Sub,cz]
theorem Dm(n:Int)(h1 : -9223372036854775808≤n)(h2:n≤9223372036854775807):aF Tryz.prog 146 [.val (.int .i64 n)] (bs (n:Rat)):=by
 refine aj Tryz.func146 rfl (by simp) (fun C hC=>?_);simp;refine akK (lJ n h1 h2) ?_;simp;exact uj _ n
theorem mr{q:Rat}(h:q.den=1):q=(q.num:Rat):=Rat.ext (by simp) (by simp[h])
theorem ya{a b:Int}(ha:fw 10000000000 a)(hb:fw 10000000000 b):fit (a*b):=gJ (fQ ha hb) (by omega)
theorem wF(x y:Rat):x+y=anj (x.num*y.den+y.num*x.den) (x.den*y.den):=by
 rw[←ann _ _ (by have:=x.den_nz;omega) (by have:=y.den_nz;omega),anm,anm]
theorem uZ(x y:Rat):x*y=anj (x.num*y.num) (x.den*y.den):=by
 rw[←anp,anm,anm]
theorem uU(x y:Rat):x / y=anj (x.num*y.den) (x.den*y.num):=by
 rw[←anp,anm,←anq,anr]
theorem dK(x y:Rat)(hx:bQ x)(hy:bQ y):aF Tryz.prog 44 [bs x,bs y] (bs (x+y)):=by
 refine aj Tryz.func44 rfl (by simp) (fun C hC=>?_);simp;refine akK (eD x) ?_;by_cases h1:x.den=1
 case' pos =>
  simp[h1];refine akK (eD y) ?_;by_cases h2:y.den=1
  case pos =>
   simp[h2];obtain⟨s,hs⟩:∃s,s=x.num+y.num:=⟨_,rfl⟩;have ha:=pH x.num y.num (dR hx) (dR hy);rw[←hs]at ha;have e:x+y=(s:Rat):=by rw[mr h1,mr h2,hs];simp
   rw[e];refine akK ha ?_;simp;exact uj _ s
  case' neg=>simp[h2]
 case' neg=>simp[h1]
 all_goals
  refine aa.nG (.d 4<|.d 5<|.qs [0,2]<|.p 1<|.p 3<|.b ( .l 6 [3]<|.l 7 [4]<|.nil )) (by kernel_rfl) (by kernel_rfl) (by simp) ?_;simp;refine ig (jK x hx) (by simp) ?_;simp;refine ig (jK y hy) (by simp) ?_;simp;refine aa.akJ (.qs [0,1,2,4,5,6,9,10]<|.l 3 []<|.l 7 []<|.l 8 []<|.l 11 []<|.l 12 []<|.l 13 [2]<|.nil) ?_;simp;refine akK (iO x.num y.den (dR hx) (fM hy)) ?_;simp;refine akK (iO y.num x.den (dR hy) (fM hx)) ?_;simp;refine akK (pH (x.num*y.den) (y.num*x.den) (ya hx.1 hy.2) (ya hy.1 hx.2)) ?_;simp;refine akK (iO x.den y.den (fM hx) (fM hy)) ?_;simp;refine akK (qJ _ _ (gJ (v8 (fQ hx.1 hy.2) (fQ hy.1 hx.2)) (by omega)) (ya hx.2 hy.2)) ?_;simp;rw[←wF]
theorem zt(x y:Rat)(hx:bQ x)(hy:bQ y):aF Tryz.prog 103 [bs x,bs y] (bs (x - y)):=by
 refine aj Tryz.func103 rfl (by simp) (fun C hC=>?_);simp;refine aa.akJ (.qs [0,1]<|.l 2 []<|.l 3 []<|.l 4 [2]<|.nil) ?_;simp;refine akK (zE y) ?_;simp;refine akK (dK x (-y) hx (iX hy)) ?_;simp[ano]
theorem dJ(x y:Rat)(hx:bQ x)(hy:bQ y):aF Tryz.prog 83 [bs x,bs y] (bs (x*y)):=by
 refine aj Tryz.func83 rfl (by simp) (fun C hC=>?_);simp;refine akK (eD x) ?_;by_cases h1:x.den=1
 case' pos =>
  simp[h1];refine akK (eD y) ?_;by_cases h2:y.den=1
  case pos =>
   simp[h2];obtain⟨s,hs⟩:∃s,s=x.num*y.num:=⟨_,rfl⟩;have ha:=iO x.num y.num (dR hx) (dR hy);rw[←hs]at ha;have e:x*y=(s:Rat):=by rw[mr h1,mr h2,hs];simp
   rw[e];refine akK ha ?_;simp;exact uj _ s
  case' neg=>simp[h2]
 case' neg=>simp[h1]
 all_goals
  refine aa.akJ (.qs [0,1,2,3,5,7]<|.l 4 []<|.l 6 []<|.l 8 []<|.l 9 []<|.l 10 []<|.l 11 [2]<|.nil) ?_;simp;refine akK (iO x.num y.num (dR hx) (dR hy)) ?_;simp;refine akK (jK x hx) ?_;simp;refine akK (jK y hy) ?_;simp;refine akK (iO x.den y.den (fM hx) (fM hy)) ?_;simp;refine akK (qJ _ _ (ya hx.1 hy.1) (ya hx.2 hy.2)) ?_;simp;rw[←uZ]
theorem Ke(x y:Rat)(hx:bQ x)(hy:bQ y):aF Tryz.prog 60 [bs x,bs y] (.val (.int .i64 (if x<y then -1 else if y<x then 1 else 0))):=by
 refine aj Tryz.func60 rfl (by simp) (fun C hC=>?_);simp;refine akK (eD x) ?_;by_cases h1:x.den=1
 case' pos =>
  simp[h1];refine akK (eD y) ?_;by_cases h2:y.den=1
  case pos =>
   simp[h2];have hc:=CI x.num y.num (alJ (dR hx) (by omega)) (alJ (dR hy) (by omega));have e1:x.num<y.num↔x<y:=by rw[ans,h1,h2];simp
   have e2:y.num<x.num↔y<x:=by rw[ans,h1,h2];simp
   simp only[e1,e2]at hc;refine akK hc ?_;simp
  case' neg=>simp[h2]
 case' neg=>simp[h1]
 all_goals
  refine aa.akJ (.qs [0,1,2,5,6,7]<|.l 3 []<|.l 4 []<|.l 8 []<|.l 9 []<|.l 10 []<|.qs [11]<|.nil) ?_;have hc:=CI (x.num*y.den) (y.num*x.den) (alJ (ya hx.1 hy.2) (by omega)) (alJ (ya hy.1 hx.2) (by omega));simp only[←ans]at hc;simp;refine akK (jK y hy) ?_;simp;refine akK (iO x.num y.den (dR hx) (fM hy)) ?_;simp;refine akK (jK x hx) ?_;simp;refine akK (iO y.num x.den (dR hy) (fM hx)) ?_;simp;refine akK hc ?_;simp
theorem tR(x y:Rat)(hx:bQ x)(hy:bQ y):aF Tryz.prog 100 [bs x,bs y] (.bO [bs (x / y),.val (.bool (decide (y≠0)))]):=by
 refine aj Tryz.func100 rfl (by simp) (fun C hC=>?_);simp;refine aa.akJ (.qs [0,1,2,5,7,8]<|.l 3 []<|.l 4 []<|.l 6 []<|.l 9 []<|.l 10 []<|.qs [11,12]<|.l 13 [2]<|.qs [14]<|.nil) ?_;simp;refine akK (jK y hy) ?_;simp;refine akK (iO x.num y.den (dR hx) (fM hy)) ?_;simp;refine akK (jK x hx) ?_;simp;refine akK (iO x.den y.num (fM hx) (dR hy)) ?_;simp;refine akK (yq _ _ (ya hx.1 hy.2) (ya hx.2 hy.1)) ?_;rw[←uU];simp;exact fun _=>x.den_nz
theorem xD(x:Rat)(hx:bQ x):aF Tryz.prog 148 [bs x] (cK x.floor):=by
 refine aj Tryz.func148 rfl (by simp) (fun C hC=>?_);simp;refine aa.nG (.d 9<|.d 10<|.qs [0,1,2]<|.p 3<|.p 4<|.qs [5,6,7,8]<|.b ( .l 11 [2]<|.l 12 [3]<|.qs [13]<|.nil )) (by kernel_rfl) (by kernel_rfl) (by simp) ?_;simp;refine ig (jK x hx) (by simp) ?_;simp;refine ig (rR x.num x.den (dR hx) (fM hx)) (by simp) ?_;simp[Rat.floor_def]
theorem HD(x:Rat)(hx:bQ x):aF Tryz.prog 145 [bs x] (cK x.ceil):=by
 refine aj Tryz.func145 rfl (by simp) (fun C hC=>?_);simp;refine akK (zE x) ?_;simp;refine akK (xD (-x) (iX hx)) ?_;simp;refine akK (rT _) ?_;simp[Rat.ceil_eq_neg_floor_neg]
end Go.Proofs

