/- A text of the prover's own. -/
import Derived.Test.YtmghjkkjaolpgaaGreatDoorWQe
import Derived.Test.YtmghjkkjaolpgaaGreatDoorWNa
import Derived.Test.YtmghjkkjaolpgaaGreatDoorWPl
open Nat renaming le_trans→alJ
open Rat renaming divInt→anj,floor_def→anx,ceil_eq_neg_floor_neg→anz
set_option maxRecDepth 10000
namespace Go.Proofs
open Go.Sv Go Go.Pl
def bL(q:Rat):SV:=.agg [.val (.bool (decide (q.num<0))),.ro ((bC 10000 q.num.natAbs).map i64),.val (.bool false),.ro ((bC 10000 q.den).map i64)]
@[simp] theorem XX(x:Rat):(bL x).eW=4:=rfl
@[simp] theorem PF(x:Rat):(bL x).aO=false:=rfl
@[simp] theorem Qu(x:Rat):(bL x).isAgg=true:=rfl
@[simp] theorem TY(x:Rat):(bL x).pure=true:=rfl
@[simp] theorem ae3(n:Nat)(x:Rat):(bL x).lt n=true:=rfl
@[simp] theorem Vu(k:Nat)(x:Rat):(bL x).bD k=false:=rfl
@[simp] theorem aat(M:aJ)(x:Rat)(y:SV):Sub M (bL x) y=(y=bL x):=by
 cases y with
 | agg l =>
  match l with
  | []=>simp[bL,Sv.Sub,cz]
  | [a]=>simp[bL,Sv.Sub,cz]
  | [a,b]=>simp[bL,Sv.Sub,cz]
  | [a,b,c]=>simp[bL,Sv.Sub,cz]
  | a::b::c::d::e::r=>simp[bL,Sv.Sub,cz]
  | [a,b,c,d]=>cases a<;>cases c<;>simp[bL,Sv.Sub,cz]<;>grind
 | _=>simp[bL,Sv.Sub]
@[simp] theorem XW(q:Rat):SV.agg ((bL q).cells.take 2)=dY q.num:=rfl
@[simp] theorem aa3(q:Rat):SV.agg (((bL q).cells.drop 2).take 2)=dY (q.den:Int):=by simp[dY];rfl
@[simp] theorem Pd(x:Int):(dY x).cells=[.val (.bool (decide (x<0))),.ro ((bC 10000 x.natAbs).map i64)]:=rfl
theorem ua{k x}(h:fw k x)(hk:k≤100000000000):eo x:=by
 unfold fw at h;have h1:=yS x.natAbs;have h2:=Be (A:=10) (B:=10000) (by omega) (by omega) x.natAbs;unfold eo;omega
theorem jH{q:Rat}(h:bQ q):eo q.num:=ua h.1 (by omega)
theorem ik{q:Rat}(h:bQ q):eo q.den:=ua h.2 (by omega)
theorem x5{a b:Int}(ha:fw 10000000000 a)(hb:fw 10000000000 b):eo (a*b):=ua (fQ ha hb) (by omega)
theorem Hm{x y:Int}(hy:eo y)(h:y≠0):eo ((Int.gcd x y:Nat):Int):=x9 (by
 have:=Nat.le_of_dvd (by omega) (Nat.gcd_dvd_right x.natAbs y.natAbs);simpa[Int.gcd]using this) hy
theorem lV(n d:Int)(hn:eo n)(hd:eo d)(h0:d≠0):aF Tryz.prog 88 [dY n,dY d] (bL (anj n d)):=by
 refine aj Tryz.func88 rfl (by simp) (fun C hC=>?_);obtain⟨q,hq⟩:∃q,q=anj n d:=⟨_,rfl⟩;rw[←hq];by_cases hneg:d<0
 case' pos =>
  simp[hneg];obtain⟨x,hx⟩:∃x,x = -n:=⟨_,rfl⟩;obtain⟨y,hy⟩:∃y,y = -d:=⟨_,rfl⟩;have n1:=qG n;have n2:=qG d;rw[←hx]at n1;rw[←hy]at n2;have hy0:0<y:=by omega
  have hxf:eo x:=by rw[hx];exact lW.2 hn
  have hyf:eo y:=by rw[hy];exact lW.2 hd
  obtain⟨e1,e2⟩:=mP (x:=x) hy0 (hq.trans (by rw[hx,hy,Rat.neg_divInt_neg]));refine akK n1 ?_;simp;refine akK n2 ?_;simp;clear hx hy n1 n2 hneg hq hn hd
 case' neg =>
  simp[hneg];have hy0:0<d:=by omega
  obtain⟨e1,e2⟩:=mP hy0 hq;obtain⟨x,rfl⟩:∃x,x=n:=⟨_,rfl⟩;obtain⟨y,rfl⟩:∃y,y=d:=⟨_,rfl⟩;have hxf:=hn;have hyf:=hd;clear hneg hq hn hd
 all_goals
  refine akK (Kz x y hxf hyf) ?_;have hgf:=Hm (x:=x) hyf (by omega);have hg0:(0:Int)<(Int.gcd x y:Nat):=by have:=Int.gcd_pos_of_ne_zero_right x (b:=y) (by omega);omega
  generalize ((Int.gcd x y:Nat):Int)=g at *;have dm1:=pK x g hxf hgf;have dm2:=pK y g hyf hgf;rw[e1]at dm1;rw[e2]at dm2;simp;refine akK dm1 ?_;simp;refine akK dm2 ?_;simp[bL,Sv.Sub,cz]
theorem Ix(q:Rat):aF Tryz.prog 31 [bL q] (.val (.int .i64 q.num.sign)):=by
 refine aj Tryz.func31 rfl (by simp) (fun C hC=>?_);simp;refine akK (Iy _) ?_;simp
theorem An(M:aJ)(x:Int):Sub M (.agg [.val (.bool (decide (x<0))),.ro ((bC 10000 x.natAbs).map i64),.val (.bool false),.ro ((bC 10000 1).map i64)]) (bL (x:Rat)):=by
 simp[bL,Sv.Sub,cz];rfl
theorem DN(n:Int)(h1 : -9223372036854775807≤n)(h2:n≤9223372036854775807):aF Tryz.prog 85 [.val (.int .i64 n)] (bL (n:Rat)):=by
 refine aj Tryz.func85 rfl (by simp) (fun C hC=>?_);simp;refine akK (gn n h1 h2) ?_;simp;refine akK (gn 1 (by omega) (by omega)) ?_;simp;exact An _ n
theorem xo(n:Int):aF Tryz.prog 154 [dY n] (bL (n:Rat)):=by
 refine aj Tryz.func154 rfl (by simp) (fun C hC=>?_);simp
 first
 | (refine ai (gn 1 (by omega) (by omega)) (by simp) ?_)
 | (
   refine aa.akJ (.qs [0]<|.l 1 []<|.qs [2]<|.l 3 [1]<|.nil) ?_;simp;refine ai (gn 1 (by omega) (by omega)) (by simp) ?_)
 simp;exact An _ n
theorem KG{x:Nat}:(bC 10000 x).length=1∧dg (bC 10000 x) 0=1↔x=1:=by
 constructor
 ·rintro⟨h1,h2⟩;have hv:=cr (B:=10000) (by omega) x
  match hd:bC 10000 x,h1 with
  | [d],_ =>
   rw[hd]at hv h2;simp[dg]at h2;simp[val,h2]at hv;omega
 ·rintro rfl;decide
theorem s7(q:Rat):aF Tryz.prog 48 [bL q] (.val (.bool (decide (q.den=1)))):=by
 refine aj Tryz.func48 rfl (by simp) (fun C hC=>?_);have key:=KG (x:=q.den);simp only[bL];generalize bC 10000 q.den=L at *;obtain⟨b,hb⟩:∃b,b=decide (q.den=1):=⟨_,rfl⟩;rw[←hb];by_cases h:L.length=1
 ·have h':(L.length:Int)=1:=by omega
  have e:=dE (xs:=L) (i:=0) (by omega);by_cases h2:dg L 0=1
  ·have:b=true:=by simp[hb];exact key.1 ⟨h,h2⟩
   simp[h',e,h2,this,h]
  ·have:b=false:=by simp[hb];exact fun hh=>h2 (key.2 hh).2
   have h2':¬((dg L 0:Nat):Int)=1:=by omega
   simp[h',e,h2',this,h]
 ·have h':¬(L.length:Int)=1:=by omega
  have:b=false:=by simp[hb];exact fun hh=>h (key.2 hh).1
  simp[h',this]
theorem ub(q:Rat):aF Tryz.prog 152 [bL q] (bL (-q)):=by
 refine aj Tryz.func152 rfl (by simp) (fun C hC=>?_);simp;refine aa.akJ (.qs [0,1,3,4]<|.l 2 []<|.qs [5]<|.l 6 [1]<|.nil) ?_;simp;refine akK (qG _) ?_;simp[bL,Sv.Sub,cz]
theorem Kr(x y:Rat)(hx:bQ x)(hy:bQ y):aF Tryz.prog 24 [bL x,bL y] (.val (.int .i64 (if x<y then -1 else if y<x then 1 else 0))):=by
 refine aj Tryz.func24 rfl (by simp) (fun C hC=>?_);have hc:=Kq (x.num*y.den) (y.num*x.den) (alJ (x5 hx.1 hy.2) (by omega)) (alJ (x5 hy.1 hx.2) (by omega));simp only[←Rat.lt_iff]at hc;simp;refine akK (il _ _ (jH hx) (ik hy)) ?_;simp;refine akK (il _ _ (jH hy) (ik hx)) ?_;simp;refine akK hc ?_;simp
theorem Sw(x y:Rat):(x.den:Int)*y.den≠0:=Int.mul_ne_zero (by have:=x.den_nz;omega) (by have:=y.den_nz;omega)
theorem tZ(x y:Rat)(hx:bQ x)(hy:bQ y):aF Tryz.prog 53 [bL x,bL y] (bL (x+y)):=by
 refine aj Tryz.func53 rfl (by simp) (fun C hC=>?_);simp;refine akK (il _ _ (jH hx) (ik hy)) ?_;simp;refine akK (il _ _ (jH hy) (ik hx)) ?_;simp;refine aa.akJ (.qs [0,1,3,4,5,6]<|.l 2 []<|.l 7 []<|.l 8 []<|.l 9 [2]<|.nil) ?_;simp;refine akK (tY _ _ (x5 hx.1 hy.2) (x5 hy.1 hx.2)) ?_;simp;refine akK (il _ _ (ik hx) (ik hy)) ?_;simp;refine akK (lV _ _ (ua (v8 (fQ hx.1 hy.2) (fQ hy.1 hx.2)) (by omega)) (x5 hx.2 hy.2) (Sw x y)) ?_;simp[←wF]
theorem oI(x y:Rat)(hx:bQ x)(hy:bQ y):aF Tryz.prog 52 [bL x,bL y] (bL (x*y)):=by
 refine aj Tryz.func52 rfl (by simp) (fun C hC=>?_);simp;refine aa.akJ (.qs [0,1,2,3,5,6,7,8]<|.l 4 []<|.l 9 []<|.l 10 []<|.l 11 [2]<|.nil) ?_;simp;refine akK (il _ _ (jH hx) (jH hy)) ?_;simp;refine akK (il _ _ (ik hx) (ik hy)) ?_;simp;refine akK (lV _ _ (x5 hx.1 hy.1) (x5 hx.2 hy.2) (Sw x y)) ?_;simp[←uZ]
theorem uf(x y:Rat)(hx:bQ x)(hy:bQ y)(h0:y≠0):aF Tryz.prog 118 [bL x,bL y] (bL (x / y)):=by
 refine aj Tryz.func118 rfl (by simp) (fun C hC=>?_);simp;refine aa.akJ (.qs [0,1,2,3,5,6,7,8]<|.l 4 []<|.l 9 []<|.l 10 []<|.l 11 [2]<|.nil) ?_;simp;refine akK (il _ _ (jH hx) (ik hy)) ?_;simp;refine akK (il _ _ (ik hx) (jH hy)) ?_;simp;refine akK (lV _ _ (x5 hx.1 hy.2) (x5 hx.2 hy.1) (Int.mul_ne_zero (by have:=x.den_nz;omega) (fun h=>h0 (Rat.num_eq_zero.1 h)))) ?_;simp[←uU]
theorem xR(x:Rat)(hx:bQ x):aF Tryz.prog 156 [bL x] (dY x.floor):=by
 refine aj Tryz.func156 rfl (by simp) (fun C hC=>?_);simp;refine akK (pK x.num x.den (jH hx) (ik hx)) ?_;simp[anx]
theorem GC(x:Rat)(hx:bQ x):aF Tryz.prog 155 [bL x] (dY x.ceil):=by
 refine aj Tryz.func155 rfl (by simp) (fun C hC=>?_);simp;refine akK (ub x) ?_;simp;refine akK (xR (-x) (iX hx)) ?_;simp;refine akK (qG _) ?_;simp[anz]
theorem Cx(l:List SV):(strOf l).size=l.length:=by
 show(strOf l).data.size=_;unfold strOf strOfNums;simp
theorem qZ{x:Int}(hx:fit x):(Hu x).size≤20000000000000:=by
 have hw:wid 10 x.natAbs≤10000000000000:=alJ (yS _) (by unfold fit at hx;omega);unfold wid at hw;unfold Hu Ki;rw[Cx];split
 ·simp
 ·split<;>simp<;>omega
theorem me:({ data:=#[47] }:ByteArray).size=1:=rfl
def jY(q:Rat):ByteArray:=if q.den=1 then Hu q.num else Hu q.num++⟨#[47]⟩++Hu q.den
theorem lL(q:Rat)(hq:bQ q):aF Tryz.prog 33 [bs q] (.val (.string (jY q))):=by
 refine aj Tryz.func33 rfl (by simp) (fun C hC=>?_);simp;refine akK (eD q) ?_;by_cases h:q.den=1
 ·simp[h];refine akK (yY _ (dR hq)) ?_;simp[jY,h]
 ·simp[h];refine aa.akJ (.qs [0,1,4]<|.l 2 []<|.qs [3]<|.l 5 []<|.l 6 []<|.qs [7,8]<|.nil) ?_;simp;refine akK (yY _ (dR hq)) ?_;simp;have t1:=qZ (dR hq);have t2:=qZ (fM hq);refine⟨by rw[me];omega,?_⟩;refine akK (jK q hq) ?_;simp;refine akK (yY _ (fM hq)) ?_;simp[jY,h];rw[me];omega
theorem l8(q:Rat)(hq:bQ q):aF Tryz.prog 37 [bL q] (.val (.string (jY q))):=by
 refine aj Tryz.func37 rfl (by simp) (fun C hC=>?_);simp;refine akK (s7 q) ?_;simp;refine akK (Av _ (jH hq)) ?_;by_cases h:q.den=1
 ·simp[h,jY]
 ·simp[h];have t1:=qZ (dR hq);have t2:=qZ (fM hq);refine⟨by rw[me];omega,?_⟩;refine akK (Av _ (ik hq)) ?_;simp[jY,h];rw[me];omega
end Go.Proofs
namespace Go.Pl
end Go.Pl
namespace Go.Proofs
open Go.Sv Go Go.Pl
attribute [simp] uj
theorem IT{k:Nat}{x y:Int}(h:x.natAbs≤y.natAbs)(hy:fw k y):fw k x:=by unfold fw at *;exact alJ (ch (by omega) h) hy
theorem uy{k:Nat}{q:Rat}(h:qw k q):fw k q.floor:=by rw[anx];exact IT (Int.natAbs_ediv_le_natAbs _ _) h.1
theorem J5{k:Nat}{q:Rat}(h:qw k q):fw k q.ceil:=by
 rw[anz];exact Ca (uy (iX h))
end Go.Proofs
namespace Go.Pl
def ZA:List Int→Rat→Rat
 | [],x=>x
 | p::l,x=>(p:Rat)+(ZA l x)⁻¹
def prd(q:Rat):Nat:=q.num.natAbs*q.den
end Go.Pl
namespace Go.Proofs
open Go.Sv Go Go.Pl
structure BI(k:Nat)(v:Rat)(P0:Nat)(parts:List Int)(low high:Rat)(n:Nat):Prop where
 l0:0<low
 lh:low≤high
 dn:low.den+high.den≤n
 kl:qw k low
 kh:qw k high
 kp:∀p∈parts,fw k p
 bv:ZA parts (btw n low high)=v
 bk:∀i,i≤parts.length→qw k (ZA (parts.drop i) (btw n low high))∧0<ZA (parts.drop i) (btw n low high)
 wt:2^(parts.length - 1)*(prd low*prd high)≤P0
 m6:1≤parts.length→1<low
theorem uk:aF Tryz.prog 85 [.val (.int .i64 1)] (bL 1):=DN 1 (by omega) (by omega)
def bv(b:Bool):SV:=.val (.bool b)
theorem Bb:bs 0=.agg [.val (.bool false),.ro [],.val (.bool false),.ro []]:=rfl
theorem yG{q:Rat}:q.num<0↔q<0:=by
 have:=Rat.num_nonneg (q:=q);rw[←Rat.not_le,←this];omega
def kT:SV:=.agg [.val (.bool false),.ro [],.val (.bool false),.ro []]
@[simp] theorem WK:kT.eW=4:=rfl
@[simp] theorem Nk:kT.aO=false:=rfl
@[simp] theorem Nx:kT.isAgg=true:=rfl
@[simp] theorem QK(k:Nat):kT.bD k=false:=rfl
end Go.Proofs
set_option maxRecDepth 10000
namespace Go.Pl
open Go Go.Sv
def bH(s:ByteArray)(i c:Nat):Prop:=i<s.size∧kV s i=c
instance (s:ByteArray) (i c:Nat):Decidable (bH s i c):=inferInstanceAs (Decidable (_∧_))
def jC(s:ByteArray)(n:Nat):Int:=if minus s then -(n:Int) else n
def bY(s:ByteArray)(e:Nat):Nat:=if bH s (e+1) 45∨bH s (e+1) 43 then e+2 else e+1
def dh(s:ByteArray)(num places e:Nat):Rat × Nat × Nat :=
 if bH s e 101 then
  if bY s e+300<aH s (bY s e) then(0,2,bY s e+300)
  else if aH s (bY s e)=bY s e∨aH s (bY s e)<s.size then(0,1,aH s (bY s e))
  else if 60<nv s (bY s e) (s.size - bY s e) then(0,2,bY s e)
  else if bH s (e+1) 45 then(anj (jC s num) ((10^(places+nv s (bY s e) (s.size - bY s e)):Nat):Int),0,0)
  else(anj (jC s (num*10^nv s (bY s e) (s.size - bY s e))) ((10^places:Nat):Int),0,0)
 else if e<s.size then(0,1,e)
 else(anj (jC s num) ((10^places:Nat):Int),0,0)
def fE(m:Nat)(s:ByteArray):Rat × Nat × Nat :=
 if au s+m<aH s (au s) then(0,2,au s+m)
 else if aH s (au s)=au s then(0,1,au s)
 else if bH s (aH s (au s)) 47 then
  if aH s (au s)+1+m<aH s (aH s (au s)+1) then(0,2,aH s (au s)+1+m)
  else if aH s (aH s (au s)+1)=aH s (au s)+1∨aH s (aH s (au s)+1)<s.size then(0,1,aH s (aH s (au s)+1))
  else if nv s (aH s (au s)+1) (s.size - (aH s (au s)+1))=0 then(0,3,aH s (au s)+1)
  else(anj (jC s (nv s (au s) (aH s (au s) - au s))) (nv s (aH s (au s)+1) (s.size - (aH s (au s)+1)):Int),0,0)
 else if bH s (aH s (au s)) 46 then
  if aH s (au s)+1+m<aH s (aH s (au s)+1) then(0,2,aH s (au s)+1+m)
  else if aH s (aH s (au s)+1)=aH s (au s)+1 then(0,1,aH s (au s)+1)
  else dh s (nv s (au s) (aH s (au s) - au s)*10^(aH s (aH s (au s)+1) - (aH s (au s)+1))+nv s (aH s (au s)+1) (aH s (aH s (au s)+1) - (aH s (au s)+1)))
   (aH s (aH s (au s)+1) - (aH s (au s)+1)) (aH s (aH s (au s)+1))
 else dh s (nv s (au s) (aH s (au s) - au s)) 0 (aH s (au s))
end Go.Pl
namespace Go.Proofs
open Go.Sv Go Go.Pl
def bu(s:ByteArray)(a:Nat)(x:SV):Option cx:=some ⟨3,[.agg [.val (.string s),.val (.int .i64 a),x]],false⟩
theorem iU{s:ByteArray}{a c:Nat}:((ek s a).toNat:Int)=c↔kV s a=c:=by unfold kV;omega
theorem bt{C:Ctx}{M:aJ}{k:Nat}{W:Option (List Nat)}{K:aJ→List Nat→SV→Prop}(s:ByteArray)(a c:Nat)(hk:ax M k=bu s a (.val .nilIface))(hs:s.size≤4611686018427387904)(hc:c<256)
  (hW:∀ks,W=some ks→∀i e,ax M i=some e→i∈ks)
  (h1:bH s a c→K (aK M k (bu s (a+1) (.val .nilIface))) [] (.val (.bool true))) (h2:¬bH s a c→K M [] (.val (.bool false))):cU Tryz.prog C 124 [.ptr k 0 0,.val (.int .u8 c)] M W K:=by
 refine ez Tryz.func124 rfl (by simp) [] (by simp) (fun ks h=>⟨rfl,hW ks h⟩) (fun C' hC=>?_);unfold bu at hk;simp;refine aa.akJ (.qs [0,1,2,3,4,5,6,7,8,9,10,11,12,13,14,15,16,17,18,19,20,21,22,23,24,25,26,27,28,29]<|.nil) ?_;by_cases az:a<s.size
 ·have hlt':¬s.size≤a:=by omega
  by_cases he:kV s a=c
  ·have he':=iU.2 he;have:=h1 ⟨az,he⟩;unfold bu at this;simp(disch:=omega)[hk,az,hlt',he',aN];exact this
  ·have he':¬((ek s a).toNat:Int)=c:=fun h=>he (iU.1 h);have:=h2 fun h=>he h.2;simp(disch:=omega)[hk,az,hlt',he',aN];exact this
 ·have hlt':s.size≤a:=by omega
  have:=h2 fun h=>az h.1;simp(disch:=omega)[hk,az,hlt',aN];exact this
theorem vg{C:Ctx}{M:aJ}{k k2:Nat}{W:Option (List Nat)}{K:aJ→List Nat→SV→Prop}(s:ByteArray)(a c:Nat)(hk:ax M k=bu s a (.iH fG (.ptr k2 0 0)))
  (hW:∀ks,W=some ks→∀i e,ax M i=some e→i∈ks) (h2:K M [] (.val (.bool false))):cU Tryz.prog C 124 [.ptr k 0 0,.val (.int .u8 c)] M W K:=by
 refine ez Tryz.func124 rfl (by simp) [] (by simp) (fun ks h=>⟨rfl,hW ks h⟩) (fun C' hC=>?_);unfold bu at hk;simp;refine aa.akJ (.qs [0,1,2,3,4,5,6,7,8,9,10,11,12,13,14,15,16,17,18,19,20,21,22,23,24,25,26,27,28,29]<|.nil) ?_;simp[hk,h2]
theorem uO{C:Ctx}{M:aJ}{k k2:Nat}{W:Option (List Nat)}{K:aJ→List Nat→SV→Prop}(s:ByteArray)(a:Nat)(e:SV)(p:Int)(hk:ax M k=bu s a (.iH fG (.ptr k2 0 0)))
  (hW:∀ks,W=some ks→∀i e,ax M i=some e→i∈ks) (h2:K M [] (.bO [])):cU Tryz.prog C 126 [.ptr k 0 0,e,.val (.int .i64 p)] M W K:=by
 refine ez Tryz.func126 rfl (by simp) [] (by simp) (fun ks h=>⟨rfl,hW ks h⟩) (fun C' hC=>?_);unfold bu at hk;simp[hk,h2]
theorem lM{C:Ctx}{M:aJ}{k:Nat}{W:Option (List Nat)}{K:aJ→List Nat→SV→Prop}(s:ByteArray)(a g:Nat)(p:Int)(hk:ax M k=bu s a (.val .nilIface))
  (hW:∀ks,W=some ks→∀i e,ax M i=some e→i∈ks)
  (h2:K (aK M k (bu s a (.iH fG (.ptr M.length 0 0)))++[some ⟨2,[.agg [.val (.int .i64 p),.fc eE g]],false⟩]) [] (.bO [])):cU Tryz.prog C 126 [.ptr k 0 0,.fc eE g,.val (.int .i64 p)] M W K:=by
 refine ez Tryz.func126 rfl (by simp) [] (by simp) (fun ks h=>⟨rfl,hW ks h⟩) (fun C' hC=>?_);have q1:=fun x=>mo x (show ax M k=some ⟨3,[.agg [.val (.string s),.val (.int .i64 a),.val .nilIface]],false⟩ from hk);have q3:=fun x y=>qx x y (show ax M k=some ⟨3,[.agg [.val (.string s),.val (.int .i64 a),.val .nilIface]],false⟩ from hk);unfold bu at hk h2;simp[hk,q1,q3];exact h2
theorem KP{M:aJ}{i:Nat}{e:cx}(h:ax M i=some e):i<M.length:=by
 have:=aM h;exact(List.getElem?_eq_some_iff.1 this).1
theorem Ia{n i:Nat}(hn:n<1000000)(h:i<n):i∈nb (List.range n):=by
 simp[nb,m6];omega
theorem cM{C:Ctx}{M:aJ}{k:Nat}{K:aJ→List Nat→SV→Prop}(s:ByteArray)(a:Nat)(hk:ax M k=bu s a (.val .nilIface))(hs:s.size≤4611686018427387904)(ha:a≤s.size)(hM:M.length<1000000)
  (h1:a+300<aH s a→K (aK M k (bu s (a+300) (.iH fG (.ptr M.length 0 0)))++[some ⟨2,[.agg [.val (.int .i64 ((a+300:Nat):Int)),.fc eE (p7 2)]],false⟩]) [] (.val (.string ⟨#[]⟩)))
  (h2:aH s a=a→K (aK M k (bu s a (.iH fG (.ptr M.length 0 0)))++[some ⟨2,[.agg [.val (.int .i64 a),.fc eE (p7 1)]],false⟩]) [] (.val (.string ⟨#[]⟩)))
  (h3:¬a+300<aH s a→a<aH s a→K (aK M k (bu s (aH s a) (.val .nilIface))) [] (.val (.string (s.extract a (aH s a))))) :
  cU Tryz.prog C 125 [.ptr k 0 0] M none K:=by
 refine ez Tryz.func125 rfl (by simp) [] (by simp) (by simp) (fun C' hC=>?_);have hk0:ax M k=some ⟨3,[.agg [.val (.string s),.val (.int .i64 a),.val .nilIface]],false⟩:=hk;have hall:∀(x:Option cx) ks,some (nb (List.range M.length))=some ks→∀(i:Nat) e,ax (aK M k x) i=some e→i∈ks:=fun x ks hks i e he=>by
  simp only[Option.some.injEq]at hks;rw[←hks];have:=KP he;rw[qC]at this;exact Ia hM this
 simp[hk0];refine aa.loop (ι:=Nat) (fun i=>⟨93,[(0,.ptr k 0 0),(2,.val (.string ⟨#[]⟩)),(3,.val (.int .i64 a))],aK M k (bu s i (.val .nilIface))⟩)
  (fun i=>a≤i∧i≤s.size∧i≤a+300∧∀j,a≤j→j<i→bV s j) (fun i=>s.size - i) a ?_ ?_ ?_
 ·exact⟨Nat.le_refl _,ha,by omega,fun j h h'=>by omega⟩
 ·simp[aw,bu,l5 hk0]
 ·rintro i ⟨g1,g2,g3,g4⟩;have hk1:ax (aK M k (bu s i (.val .nilIface))) k=some ⟨3,[.agg [.val (.string s),.val (.int .i64 i),.val .nilIface]],false⟩:=gz _ hk0;have stop:¬bV s i→aH s a=i:=fun h=>oC g1 g4 h;simp;refine aa.akJ (.qs [0,1,2,3,4,5,6,7,8,9,10,11,12,13,14,15,16,17,18,19,20,21,22,23,24,25,26,27,28,29,30,31,32,33,34,35,36,37,38,39,40]<|.nil) ?_;by_cases hd:bV s i
  ·have az:=hd.1;have hc1:(48:Int)≤(ek s i).toNat:=by have:=hd.2.1;unfold kV at this;omega
   have hc2:((ek s i).toNat:Int)≤57:=by have:=hd.2.2;unfold kV at this;omega
   have all:∀j,a≤j→j<i+1→bV s j:=fun j k1 k2=>by
    by_cases e:j=i
    ·subst e;exact hd
    ·exact g4 j k1 (by omega)
   by_cases hb:i=a+300
   ·have hb':(i:Int) - a=300:=by omega
    have hgt:=y3 g1 fun j k1 k2=>all j k1 (by omega);have:=h1 (by omega);rw[←hb]at this;simp(disch:=omega)[hk1,az,hc1,hc2,hb',aN];refine aa.akJ (.qs [0,1,2,3,4,5]<|.l 6 (List.range M.length)<|.nil) ?_;simp[hk1];refine lM s i _ _ (gz _ hk0) (hall _) ?_;simp[bu];exact this
   ·have hb':¬(i:Int) - a=300:=by omega
    simp(disch:=omega)[hk1,az,hc1,hc2,hb',aN];exact⟨i+1,⟨by omega,by omega,by omega,all⟩,by omega,by simp[aw,bu]⟩
  ·have hE:=stop hd;have fin:(¬i<s.size∨i<s.size∧¬(48:Int)≤(ek s i).toNat)∨i<s.size∧(48:Int)≤(ek s i).toNat∧¬((ek s i).toNat:Int)≤57:=by
    by_cases h1:i<s.size
    ·by_cases h2:(48:Int)≤(ek s i).toNat
     ·refine .inr ⟨h1,h2,fun h3=>hd ⟨h1,?_,?_⟩⟩<;>unfold kV<;>omega
     ·exact .inl (.inr ⟨h1,h2⟩)
    ·exact .inl (.inl h1)
   rcases fin with(n1 | ⟨n1,n2⟩) | ⟨n1,n2,n3⟩;all_goals first | simp(disch:=omega)[hk1,n1,n2,n3,aN] | simp(disch:=omega)[hk1,n1,n2,aN] | simp(disch:=omega)[hk1,n1,aN]
   all_goals
    by_cases he:i=a
    ·have h2':=h2 (hE.trans he);subst he;simp[hk1];refine aa.akJ (.qs [0,1,2,3,4,5]<|.l 6 (List.range M.length)<|.nil) ?_;simp[hk1];refine lM s i _ _ (gz _ hk0) (hall _) ?_;have q1:=fun x=>mo x (gz (M:=M) (k:=k) ⟨3,[.agg [.val (.string s),.val (.int .i64 i),.iH fG (.ptr M.length 0 0)]],false⟩ hk0);simp[bu];refine aa.akJ (.qs [0,1,2,3,4,5,6,7,8,9,10]<|.nil) ?_;simp[bu,q1];exact⟨by omega,h2'⟩
    ·have he':¬(i:Int)=a:=by omega
     have h3':=h3 (by omega) (by omega);rw[hE]at h3';simp[he'];refine aa.akJ (.qs [0,1,2,3,4,5,6,7,8,9,10]<|.nil) ?_;simp[hk1];exact⟨by omega,h3'⟩
end Go.Proofs

