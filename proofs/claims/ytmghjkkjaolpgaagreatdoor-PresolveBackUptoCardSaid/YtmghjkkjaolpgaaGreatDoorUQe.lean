/- A text of the prover's own. -/
import Derived.Test.YtmghjkkjaolpgaaGreatDoorUFs
import Derived.Test.YtmghjkkjaolpgaaGreatDoorUVz
open Int renaming natAbs_ediv_le_natAbs→aon,lt_trichotomy→anV,sign_eq_neg_one_of_neg→aoo,sign_eq_one_of_pos→aop,gcd→aoj,gcd_comm→aoq
open Nat renaming le_trans→amQ
open Rat renaming divInt→aor,num_divInt→aos,den_divInt→aot,num_divInt_den→aou,divInt_add_divInt→aov,sub_eq_add_neg→aow,divInt_mul_divInt→aox,inv_def→aoy,div_def→aoz,lt_iff→aoA
set_option maxRecDepth 10000
namespace Go.Pl
def btw:Nat→Rat→Rat→Rat
 | 0,_,_=>0
 | n+1,low,high =>
  if(low.ceil:Rat)≤high then(low.ceil:Rat)
  else(low.floor:Rat)+(btw n (high - low.floor)⁻¹ (low - low.floor)⁻¹)⁻¹
end Go.Pl
namespace Go.Proofs
open Go.Sv Go Go.Pl
def aY(q:Rat):SV:=.agg [.val (.bool (decide (q.num<0))),.ro ((bB 4294967296 q.num.natAbs).map u32),.val (.bool false),.ro ((bB 4294967296 (q.den - 1)).map u32)]
@[simp] theorem ZR(x:Rat):(aY x).fj=4:=rfl
@[simp] theorem Rq(x:Rat):(aY x).aM=false:=rfl
@[simp] theorem QS(x:Rat):(aY x).isAgg=true:=rfl
@[simp] theorem V8(x:Rat):(aY x).pure=true:=rfl
@[simp] theorem afC(n:Nat)(x:Rat):(aY x).lt n=true:=rfl
@[simp] theorem XV(k:Nat)(x:Rat):(aY x).bC k=false:=rfl
@[simp] theorem abk(M:aJ)(x:Rat)(y:SV):Sub M (aY x) y=(y=aY x):=by
 cases y with
 | agg l =>
  match l with
  | []=>simp[aY,Sv.Sub,cA]
  | [a]=>simp[aY,Sv.Sub,cA]
  | [a,b]=>simp[aY,Sv.Sub,cA]
  | [a,b,c]=>simp[aY,Sv.Sub,cA]
  | a::b::c::d::e::r=>simp[aY,Sv.Sub,cA]
  | [a,b,c,d]=>cases a<;>cases c<;>simp[aY,Sv.Sub,cA]<;>grind
 | _=>simp[aY,Sv.Sub]
def qw(k:Nat)(q:Rat):Prop:=fw k q.num∧fw k (q.den:Int)
theorem CY(x:Int)(g:Nat):(x / g).natAbs≤x.natAbs:=aon _ _
theorem pD{k:Nat}(h:1≤k):fw k 1:=amQ (gZ (by omega) (by decide)) h
theorem ug(k:Nat):fw k 0:=by simp[fw,wid,bf]
theorem fi{k x y}(hx:fw k x)(hy:fw k y)(h1:1≤k):qw k (aor x y):=by
 constructor
 ·unfold fw at *;rw[aos];refine amQ (bY (by omega) (amQ (CY _ _) ?_)) hx;rw[Int.natAbs_mul];rcases anV y 0 with h | h | h
  ·rw[aoo h];simp
  ·subst h;simp
  ·rw[aop h];simp
 ·unfold fw at *;rw[aot];split
  ·exact pD h1
  ·refine amQ (bY (by omega) ?_) hy;rw[Int.natAbs_natCast];exact Nat.div_le_self _ _
theorem ah{k l q}(h:qw k q)(hk:k≤l):qw l q:=⟨cI h.1 hk,cI h.2 hk⟩
theorem jP{k l x y}(hx:qw k x)(hy:qw l y):qw (k+l+1) (x+y):=by
 rw[←aou x,←aou y,aov _ _ (by have:=x.den_nz;omega) (by have:=y.den_nz;omega)];exact fi (sf (k:=k+l) (fF hx.1 hy.2) (by rw[Nat.add_comm];exact fF hy.1 hx.2)) (cI (fF hx.2 hy.2) (by omega)) (by omega)
theorem lq{k x}(hx:qw k x):qw k (-x):=⟨by rw[Rat.neg_num];exact CU hx.1,hx.2⟩
theorem z3{k l x y}(hx:qw k x)(hy:qw l y):qw (k+l+1) (x - y):=by rw[aow];exact jP hx (lq hy)
theorem bW{k l x y}(hx:qw k x)(hy:qw l y)(h1:1≤k+l):qw (k+l) (x*y):=by
 rw[←aou x,←aou y,aox];exact fi (fF hx.1 hy.1) (fF hx.2 hy.2) h1
theorem M8{k x}(hx:qw k x)(h1:1≤k):qw k x⁻¹:=by
 rw[aoy];exact fi hx.2 hx.1 h1
theorem lj{k l x y}(hx:qw k x)(hy:qw l y)(h1:1≤l):qw (k+l) (x / y):=by
 rw[aoz];exact bW hx (M8 hy h1) (by omega)
theorem CV{k x}(hx:fw k x)(h1:1≤k):qw k (x:Rat):=⟨by simpa using hx,by simpa using pD h1⟩
def dE(q:Rat):Prop:=qw 10000000000 q
theorem cG{k q}(h:qw k q)(hk:k≤10000000000):dE q:=ah h hk
theorem wJ(q:Rat):((q.den - 1:Nat):Int)=(q.den:Int) - 1:=by have:=q.den_nz;omega
theorem KI(q:Rat):cK ((q.den:Int) - 1)=.agg [.val (.bool false),.ro ((bB 4294967296 (q.den - 1)).map u32)]:=by
 rw[←wJ];simp[cK]
theorem KP{k:Nat}{q:Rat}(h:qw k q):fw k ((q.den:Int) - 1):=by
 have h1:=h.2;unfold fw at *;have h2:=q.den_nz;refine amQ (bY (by omega) ?_) h1;omega
end Go.Proofs
namespace Go.Proofs
open Go.Sv Go Go.Pl
@[simp] theorem Yj(q:Rat):SV.agg ((aY q).cells.take 2)=cK q.num:=rfl
@[simp] theorem VD(q:Rat):SV.agg (((aY q).cells.drop 2).take 2)=cK ((q.den:Int) - 1):=by rw[KI];rfl
@[simp] theorem Qb(x:Int):(cK x).cells=[.val (.bool (decide (x<0))),.ro ((bB 4294967296 x.natAbs).map u32)]:=rfl
theorem ey{q:Rat}(h:dE q):fit q.num:=gz h.1 (by omega)
theorem gw{q:Rat}(h:dE q):fit q.den:=gz h.2 (by omega)
theorem Hx{q:Rat}(h:dE q):fit ((q.den:Int) - 1):=gz (KP h) (by omega)
theorem yH:fit 1:=gz (pD (Nat.le_refl 1)) (by omega)
theorem jx(q:Rat)(h:dE q):aI Tryz.prog 72 [aY q] (cK q.den):=by
 refine aj Tryz.func72 rfl (by simp) (fun C hC=>?_);simp;refine ae.alS (.qs [0,1]<|.l 2 []<|.l 3 []<|.l 4 [1]<|.nil) ?_;simp;refine alT (lE 1 (by omega) (by omega)) ?_;simp;refine alT (pK _ 1 (Hx h) yH) ?_;simp
theorem Ej(q:Rat):aI Tryz.prog 147 [aY q] (cK q.num):=by
 refine aj Tryz.func147 rfl (by simp) (fun C hC=>?_);simp
theorem I8(q:Rat):aI Tryz.prog 59 [aY q] (.val (.int .i64 q.num.sign)):=by
 refine aj Tryz.func59 rfl (by simp) (fun C hC=>?_);simp;refine alT (mv _) ?_;simp
theorem eP(q:Rat):aI Tryz.prog 70 [aY q] (.val (.bool (decide (q.den=1)))):=by
 refine aj Tryz.func70 rfl (by simp) (fun C hC=>?_);simp;refine alT (mv _) ?_;simp;omega
theorem yU(q:Rat):aI Tryz.prog 101 [aY q] (aY (-q)):=by
 refine aj Tryz.func101 rfl (by simp) (fun C hC=>?_);simp;refine ae.alS (.qs [0,1,3,4]<|.l 2 []<|.qs [5]<|.l 6 [1]<|.nil) ?_;simp;refine alT (sq _) ?_;simp;simp[aY,Sv.Sub,cA,←wJ]
theorem CS{n d:Int}(h:d≠0):(aor n d).num=(if d<0 then -n else n) / (aoj n d:Int):=by
 rw[aos,aoq];rcases anV d 0 with h' | h' | h'
 ·rw[if_pos h',aoo h'];simp
 ·exact absurd h' h
 ·rw[if_neg (by omega),aop h'];simp
theorem C9{n d:Int}(h:d≠0):((aor n d).den:Int)=(if d<0 then -d else d) / (aoj n d:Int):=by
 rw[aot,if_neg h,aoq];have e:(if d<0 then -d else d)=(d.natAbs:Int):=by split<;>omega
 rw[e];simp
theorem mg{x y:Int}{q:Rat}(h:0<y)(hq:q=aor x y):x / (aoj x y:Int)=q.num∧y / (aoj x y:Int)=q.den:=by
 rw[hq,CS (by omega),C9 (by omega)];rw[if_neg (by omega),if_neg (by omega)];exact⟨rfl,rfl⟩
theorem Lu{x y:Int}(hy:fit y)(h:y≠0):fit ((aoj x y:Nat):Int):=yv (by
 have:=Nat.le_of_dvd (by omega) (Nat.gcd_dvd_right x.natAbs y.natAbs);simpa[aoj]using this) hy
theorem zr(n d:Int)(hn:fit n)(hd:fit d):aI Tryz.prog 133 [cK n,cK d] (.bG [aY (aor n d),.val (.bool (decide (d≠0)))]):=by
 refine aj Tryz.func133 rfl (by simp) (fun C hC=>?_);obtain⟨q,hq⟩:∃q,q=aor n d:=⟨_,rfl⟩;rw[←hq];by_cases h0:d=0
 ·subst h0;simp;refine alT (mv 0) ?_;simp[aY,hq,Rat.divInt_zero,bf]
 ·simp;refine alT (mv _) ?_;simp[h0];refine alT (mv _) ?_;by_cases hneg:d<0
  case' pos =>
   simp[hneg];obtain⟨x,hx⟩:∃x,x = -n:=⟨_,rfl⟩;obtain⟨y,hy⟩:∃y,y = -d:=⟨_,rfl⟩;have n1:=sq n;have n2:=sq d;rw[←hx]at n1;rw[←hy]at n2;have hy0:0<y:=by omega
   have hxf:fit x:=by rw[hx];exact uI.2 hn
   have hyf:fit y:=by rw[hy];exact uI.2 hd
   obtain⟨e1,e2⟩:=mg (x:=x) hy0 (hq.trans (by rw[hx,hy,Rat.neg_divInt_neg]));refine ae.alS (.qs [0,2]<|.l 1 []<|.l 3 []<|.l 4 [0]<|.l 5 [1]<|.nil) ?_;simp;refine alT n1 ?_;simp;refine alT n2 ?_;simp;clear hx hy n1 n2 hneg hq hn hd
  case' neg =>
   simp[hneg];have hy0:0<d:=by omega
   obtain⟨e1,e2⟩:=mg hy0 hq;obtain⟨x,rfl⟩:∃x,x=n:=⟨_,rfl⟩;obtain⟨y,rfl⟩:∃y,y=d:=⟨_,rfl⟩;have hxf:=hn;have hyf:=hd;clear hneg hq hn hd
  all_goals
   have hqd:fit (q.den:Int):=by rw[←e2];exact yv (aon _ _) hyf
   have hsub:=Jt q.den 1 hqd yH;refine alT (N9 x y hxf hyf) ?_;have hgf:=Lu (x:=x) hyf (by omega);have hg0:(0:Int)<(aoj x y:Nat):=by have:=Int.gcd_pos_of_ne_zero_right x (b:=y) (by omega);omega
   generalize ((aoj x y:Nat):Int)=g at *;simp;refine ae.alS (.qs [0]<|.l 1 []<|.l 2 []<|.qs [3]<|.nil) ?_;simp;refine alT (lE 1 (by omega) (by omega)) ?_;simp;refine alT (Cr g 1 (amQ hgf (by omega)) (amQ yH (by omega))) ?_;by_cases hg1:g=1
   case' pos =>
    subst hg1;simp;simp at e1 e2;subst e1;subst e2
   case' neg =>
    simp[hg1];have hc:¬(if g<1 then(-1:Int) else if 1<g then 1 else 0)=0:=by rw[if_neg (by omega),if_pos (by omega)];omega
    have dm1:=sI x g hxf hgf;have dm2:=sI y g hyf hgf;rw[e1]at dm1;rw[e2]at dm2;simp[hc];refine alT dm1 ?_;simp;refine alT dm2 ?_;simp
   all_goals
    refine ae.alS (.qs [0,1]<|.l 2 []<|.l 3 []<|.qs [4]<|.l 5 [2]<|.qs [6]<|.nil) ?_;simp;refine alT (lE 1 (by omega) (by omega)) ?_;simp;refine alT hsub ?_;simp[aY,Sv.Sub,cA,←wJ];try omega
theorem rf(n d:Int)(hn:fit n)(hd:fit d):aI Tryz.prog 81 [cK n,cK d] (aY (aor n d)):=by
 refine aj Tryz.func81 rfl (by simp) (fun C hC=>?_);simp;refine alT (zr n d hn hd) ?_;simp
theorem K1(x:Int):aY (x:Rat)=.agg [.val (.bool (decide (x<0))),.ro ((bB 4294967296 x.natAbs).map u32),.val (.bool false),.ro []]:=by
 rfl
theorem uv(M:aJ)(x:Int):Sub M (.agg [.val (.bool (decide (x<0))),.ro ((bB 4294967296 x.natAbs).map u32),.val (.bool false),.val (.slice none 0 0)]) (aY (x:Rat)):=by
 rw[K1];simp[Sv.Sub,cA]
theorem EM(n:Int)(h1 : -9223372036854775808≤n)(h2:n≤9223372036854775807):aI Tryz.prog 146 [.val (.int .i64 n)] (aY (n:Rat)):=by
 refine aj Tryz.func146 rfl (by simp) (fun C hC=>?_);simp;refine alT (lE n h1 h2) ?_;simp;exact uv _ n
theorem l7{q:Rat}(h:q.den=1):q=(q.num:Rat):=Rat.ext (by simp) (by simp[h])
theorem zK{a b:Int}(ha:fw 10000000000 a)(hb:fw 10000000000 b):fit (a*b):=gz (fF ha hb) (by omega)
theorem vp(x y:Rat):x+y=aor (x.num*y.den+y.num*x.den) (x.den*y.den):=by
 rw[←aov _ _ (by have:=x.den_nz;omega) (by have:=y.den_nz;omega),aou,aou]
theorem we(x y:Rat):x*y=aor (x.num*y.num) (x.den*y.den):=by
 rw[←aox,aou,aou]
theorem C1(x y:Rat):x / y=aor (x.num*y.den) (x.den*y.num):=by
 rw[←aox,aou,←aoy,aoz]
theorem dh(x y:Rat)(hx:dE x)(hy:dE y):aI Tryz.prog 44 [aY x,aY y] (aY (x+y)):=by
 refine aj Tryz.func44 rfl (by simp) (fun C hC=>?_);simp;refine alT (eP x) ?_;by_cases h1:x.den=1
 case' pos =>
  simp[h1];refine alT (eP y) ?_;by_cases h2:y.den=1
  case pos =>
   simp[h2];obtain⟨s,hs⟩:∃s,s=x.num+y.num:=⟨_,rfl⟩;have ha:=pK x.num y.num (ey hx) (ey hy);rw[←hs]at ha;have e:x+y=(s:Rat):=by rw[l7 h1,l7 h2,hs];simp
   rw[e];refine alT ha ?_;simp;exact uv _ s
  case' neg=>simp[h2]
 case' neg=>simp[h1]
 all_goals
  refine ae.yj (.d 4<|.d 5<|.qs [0,2]<|.p 1<|.p 3<|.b ( .l 6 [3]<|.l 7 [4]<|.nil )) (by kernel_rfl) (by kernel_rfl) (by simp) ?_;simp;refine mS (jx x hx) (by simp) ?_;simp;refine mS (jx y hy) (by simp) ?_;simp;refine ae.alS (.qs [0,1,2,4,5,6,9,10]<|.l 3 []<|.l 7 []<|.l 8 []<|.l 11 []<|.l 12 []<|.l 13 [2]<|.nil) ?_;simp;refine alT (iH x.num y.den (ey hx) (gw hy)) ?_;simp;refine alT (iH y.num x.den (ey hy) (gw hx)) ?_;simp;refine alT (pK (x.num*y.den) (y.num*x.den) (zK hx.1 hy.2) (zK hy.1 hx.2)) ?_;simp;refine alT (iH x.den y.den (gw hx) (gw hy)) ?_;simp;refine alT (rf _ _ (gz (sf (fF hx.1 hy.2) (fF hy.1 hx.2)) (by omega)) (zK hx.2 hy.2)) ?_;simp;rw[←vp]
theorem yA(x y:Rat)(hx:dE x)(hy:dE y):aI Tryz.prog 103 [aY x,aY y] (aY (x - y)):=by
 refine aj Tryz.func103 rfl (by simp) (fun C hC=>?_);simp;refine ae.alS (.qs [0,1]<|.l 2 []<|.l 3 []<|.l 4 [2]<|.nil) ?_;simp;refine alT (yU y) ?_;simp;refine alT (dh x (-y) hx (lq hy)) ?_;simp[aow]
theorem dB(x y:Rat)(hx:dE x)(hy:dE y):aI Tryz.prog 83 [aY x,aY y] (aY (x*y)):=by
 refine aj Tryz.func83 rfl (by simp) (fun C hC=>?_);simp;refine alT (eP x) ?_;by_cases h1:x.den=1
 case' pos =>
  simp[h1];refine alT (eP y) ?_;by_cases h2:y.den=1
  case pos =>
   simp[h2];obtain⟨s,hs⟩:∃s,s=x.num*y.num:=⟨_,rfl⟩;have ha:=iH x.num y.num (ey hx) (ey hy);rw[←hs]at ha;have e:x*y=(s:Rat):=by rw[l7 h1,l7 h2,hs];simp
   rw[e];refine alT ha ?_;simp;exact uv _ s
  case' neg=>simp[h2]
 case' neg=>simp[h1]
 all_goals
  refine ae.alS (.qs [0,1,2,3,5,7]<|.l 4 []<|.l 6 []<|.l 8 []<|.l 9 []<|.l 10 []<|.l 11 [2]<|.nil) ?_;simp;refine alT (iH x.num y.num (ey hx) (ey hy)) ?_;simp;refine alT (jx x hx) ?_;simp;refine alT (jx y hy) ?_;simp;refine alT (iH x.den y.den (gw hx) (gw hy)) ?_;simp;refine alT (rf _ _ (zK hx.1 hy.1) (zK hx.2 hy.2)) ?_;simp;rw[←we]
theorem J7(x y:Rat)(hx:dE x)(hy:dE y):aI Tryz.prog 60 [aY x,aY y] (.val (.int .i64 (if x<y then -1 else if y<x then 1 else 0))):=by
 refine aj Tryz.func60 rfl (by simp) (fun C hC=>?_);simp;refine alT (eP x) ?_;by_cases h1:x.den=1
 case' pos =>
  simp[h1];refine alT (eP y) ?_;by_cases h2:y.den=1
  case pos =>
   simp[h2];have hc:=Cr x.num y.num (amQ (ey hx) (by omega)) (amQ (ey hy) (by omega));have e1:x.num<y.num↔x<y:=by rw[aoA,h1,h2];simp
   have e2:y.num<x.num↔y<x:=by rw[aoA,h1,h2];simp
   simp only[e1,e2]at hc;refine alT hc ?_;simp
  case' neg=>simp[h2]
 case' neg=>simp[h1]
 all_goals
  refine ae.alS (.qs [0,1,2,5,6,7]<|.l 3 []<|.l 4 []<|.l 8 []<|.l 9 []<|.l 10 []<|.qs [11]<|.nil) ?_;have hc:=Cr (x.num*y.den) (y.num*x.den) (amQ (zK hx.1 hy.2) (by omega)) (amQ (zK hy.1 hx.2) (by omega));simp only[←aoA]at hc;simp;refine alT (jx y hy) ?_;simp;refine alT (iH x.num y.den (ey hx) (gw hy)) ?_;simp;refine alT (jx x hx) ?_;simp;refine alT (iH y.num x.den (ey hy) (gw hx)) ?_;simp;refine alT hc ?_;simp
theorem uG(x y:Rat)(hx:dE x)(hy:dE y):aI Tryz.prog 100 [aY x,aY y] (.bG [aY (x / y),.val (.bool (decide (y≠0)))]):=by
 refine aj Tryz.func100 rfl (by simp) (fun C hC=>?_);simp;refine ae.alS (.qs [0,1,2,5,7,8]<|.l 3 []<|.l 4 []<|.l 6 []<|.l 9 []<|.l 10 []<|.qs [11,12]<|.l 13 [2]<|.qs [14]<|.nil) ?_;simp;refine alT (jx y hy) ?_;simp;refine alT (iH x.num y.den (ey hx) (gw hy)) ?_;simp;refine alT (jx x hx) ?_;simp;refine alT (iH x.den y.num (gw hx) (ey hy)) ?_;simp;refine alT (zr _ _ (zK hx.1 hy.2) (zK hx.2 hy.1)) ?_;rw[←C1];simp;exact fun _=>x.den_nz
theorem yc(x:Rat)(hx:dE x):aI Tryz.prog 148 [aY x] (cK x.floor):=by
 refine aj Tryz.func148 rfl (by simp) (fun C hC=>?_);simp;refine ae.yj (.d 9<|.d 10<|.qs [0,1,2]<|.p 3<|.p 4<|.qs [5,6,7,8]<|.b ( .l 11 [2]<|.l 12 [3]<|.qs [13]<|.nil )) (by kernel_rfl) (by kernel_rfl) (by simp) ?_;simp;refine mS (jx x hx) (by simp) ?_;simp;refine mS (sI x.num x.den (ey hx) (gw hx)) (by simp) ?_;simp[Rat.floor_def]
theorem Jg(x:Rat)(hx:dE x):aI Tryz.prog 145 [aY x] (cK x.ceil):=by
 refine aj Tryz.func145 rfl (by simp) (fun C hC=>?_);simp;refine alT (yU x) ?_;simp;refine alT (yc (-x) (lq hx)) ?_;simp;refine alT (sq _) ?_;simp[Rat.ceil_eq_neg_floor_neg]
end Go.Proofs

