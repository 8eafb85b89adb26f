/- A text of the prover's own. -/
import Derived.Test.YtmghjkkjaolpgaaGreatDoorUQe
import Derived.Test.YtmghjkkjaolpgaaGreatDoorUNa
import Derived.Test.YtmghjkkjaolpgaaGreatDoorUPl
open Nat renaming le_trans→amQ
open Rat renaming divInt→aor
set_option maxRecDepth 10000
namespace Go.Proofs
open Go.Sv Go Go.Pl
def cC(q:Rat):SV:=.agg [.val (.bool (decide (q.num<0))),.ro ((bB 10000 q.num.natAbs).map i64),.val (.bool false),.ro ((bB 10000 q.den).map i64)]
@[simp] theorem YC(x:Rat):(cC x).fj=4:=rfl
@[simp] theorem Qc(x:Rat):(cC x).aM=false:=rfl
@[simp] theorem RE(x:Rat):(cC x).isAgg=true:=rfl
@[simp] theorem UO(x:Rat):(cC x).pure=true:=rfl
@[simp] theorem aeD(n:Nat)(x:Rat):(cC x).lt n=true:=rfl
@[simp] theorem Xo(k:Nat)(x:Rat):(cC x).bC k=false:=rfl
@[simp] theorem acp(M:aJ)(x:Rat)(y:SV):Sub M (cC x) y=(y=cC x):=by
 cases y with
 | agg l =>
  match l with
  | []=>simp[cC,Sv.Sub,cA]
  | [a]=>simp[cC,Sv.Sub,cA]
  | [a,b]=>simp[cC,Sv.Sub,cA]
  | [a,b,c]=>simp[cC,Sv.Sub,cA]
  | a::b::c::d::e::r=>simp[cC,Sv.Sub,cA]
  | [a,b,c,d]=>cases a<;>cases c<;>simp[cC,Sv.Sub,cA]<;>grind
 | _=>simp[cC,Sv.Sub]
@[simp] theorem adf(q:Rat):SV.agg ((cC q).cells.take 2)=eJ q.num:=rfl
@[simp] theorem Z4(q:Rat):SV.agg (((cC q).cells.drop 2).take 2)=eJ (q.den:Int):=by simp[eJ];rfl
@[simp] theorem Sz(x:Int):(eJ x).cells=[.val (.bool (decide (x<0))),.ro ((bB 10000 x.natAbs).map i64)]:=rfl
theorem ui{k x}(h:fw k x)(hk:k≤100000000000):eE x:=by
 unfold fw at h;have h1:=tV x.natAbs;have h2:=By (A:=10) (B:=10000) (by omega) (by omega) x.natAbs;unfold eE;omega
theorem oG{q:Rat}(h:dE q):eE q.num:=ui h.1 (by omega)
theorem kT{q:Rat}(h:dE q):eE q.den:=ui h.2 (by omega)
theorem CT{a b:Int}(ha:fw 10000000000 a)(hb:fw 10000000000 b):eE (a*b):=ui (fF ha hb) (by omega)
theorem GF{x y:Int}(hy:eE y)(h:y≠0):eE ((Int.gcd x y:Nat):Int):=zZ (by
 have:=Nat.le_of_dvd (by omega) (Nat.gcd_dvd_right x.natAbs y.natAbs);simpa[Int.gcd]using this) hy
theorem nM(n d:Int)(hn:eE n)(hd:eE d)(h0:d≠0):aI Tryz.prog 88 [eJ n,eJ d] (cC (aor n d)):=by
 refine aj Tryz.func88 rfl (by simp) (fun C hC=>?_);obtain⟨q,hq⟩:∃q,q=aor n d:=⟨_,rfl⟩;rw[←hq];by_cases hneg:d<0
 case' pos =>
  simp[hneg];obtain⟨x,hx⟩:∃x,x = -n:=⟨_,rfl⟩;obtain⟨y,hy⟩:∃y,y = -d:=⟨_,rfl⟩;have n1:=Ad n;have n2:=Ad d;rw[←hx]at n1;rw[←hy]at n2;have hy0:0<y:=by omega
  have hxf:eE x:=by rw[hx];exact lG.2 hn
  have hyf:eE y:=by rw[hy];exact lG.2 hd
  obtain⟨e1,e2⟩:=mg (x:=x) hy0 (hq.trans (by rw[hx,hy,Rat.neg_divInt_neg]));refine alT n1 ?_;simp;refine alT n2 ?_;simp;clear hx hy n1 n2 hneg hq hn hd
 case' neg =>
  simp[hneg];have hy0:0<d:=by omega
  obtain⟨e1,e2⟩:=mg hy0 hq;obtain⟨x,rfl⟩:∃x,x=n:=⟨_,rfl⟩;obtain⟨y,rfl⟩:∃y,y=d:=⟨_,rfl⟩;have hxf:=hn;have hyf:=hd;clear hneg hq hn hd
 all_goals
  refine alT (K5 x y hxf hyf) ?_;have hgf:=GF (x:=x) hyf (by omega);have hg0:(0:Int)<(Int.gcd x y:Nat):=by have:=Int.gcd_pos_of_ne_zero_right x (b:=y) (by omega);omega
  generalize ((Int.gcd x y:Nat):Int)=g at *;have dm1:=vJ x g hxf hgf;have dm2:=vJ y g hyf hgf;rw[e1]at dm1;rw[e2]at dm2;simp;refine alT dm1 ?_;simp;refine alT dm2 ?_;simp[cC,Sv.Sub,cA]
theorem HF(q:Rat):aI Tryz.prog 31 [cC q] (.val (.int .i64 q.num.sign)):=by
 refine aj Tryz.func31 rfl (by simp) (fun C hC=>?_);simp;refine alT (IK _) ?_;simp
theorem Ho(M:aJ)(x:Int):Sub M (.agg [.val (.bool (decide (x<0))),.ro ((bB 10000 x.natAbs).map i64),.val (.bool false),.ro ((bB 10000 1).map i64)]) (cC (x:Rat)):=by
 simp[cC,Sv.Sub,cA];rfl
theorem LO(n:Int)(h1 : -9223372036854775807≤n)(h2:n≤9223372036854775807):aI Tryz.prog 85 [.val (.int .i64 n)] (cC (n:Rat)):=by
 refine aj Tryz.func85 rfl (by simp) (fun C hC=>?_);simp;refine alT (jg n h1 h2) ?_;simp;refine alT (jg 1 (by omega) (by omega)) ?_;simp;exact Ho _ n
theorem LW{x:Nat}:(bB 10000 x).length=1∧dg (bB 10000 x) 0=1↔x=1:=by
 constructor
 ·rintro⟨h1,h2⟩;have hv:=bX (B:=10000) (by omega) x
  match hd:bB 10000 x,h1 with
  | [d],_ =>
   rw[hd]at hv h2;simp[dg]at h2;simp[val,h2]at hv;omega
 ·rintro rfl;decide
theorem Ak(q:Rat):aI Tryz.prog 48 [cC q] (.val (.bool (decide (q.den=1)))):=by
 refine aj Tryz.func48 rfl (by simp) (fun C hC=>?_);have key:=LW (x:=q.den);simp only[cC];generalize bB 10000 q.den=L at *;obtain⟨b,hb⟩:∃b,b=decide (q.den=1):=⟨_,rfl⟩;rw[←hb];by_cases h:L.length=1
 ·have h':(L.length:Int)=1:=by omega
  have e:=dQ (xs:=L) (i:=0) (by omega);by_cases h2:dg L 0=1
  ·have:b=true:=by simp[hb];exact key.1 ⟨h,h2⟩
   simp[h',e,h2,this,h]
  ·have:b=false:=by simp[hb];exact fun hh=>h2 (key.2 hh).2
   have h2':¬((dg L 0:Nat):Int)=1:=by omega
   simp[h',e,h2',this,h]
 ·have h':¬(L.length:Int)=1:=by omega
  have:b=false:=by simp[hb];exact fun hh=>h (key.2 hh).1
  simp[h',this]
theorem LJ(x y:Rat)(hx:dE x)(hy:dE y):aI Tryz.prog 24 [cC x,cC y] (.val (.int .i64 (if x<y then -1 else if y<x then 1 else 0))):=by
 refine aj Tryz.func24 rfl (by simp) (fun C hC=>?_);have hc:=Kv (x.num*y.den) (y.num*x.den) (amQ (CT hx.1 hy.2) (by omega)) (amQ (CT hy.1 hx.2) (by omega));simp only[←Rat.lt_iff]at hc;simp;refine alT (ju _ _ (oG hx) (kT hy)) ?_;simp;refine alT (ju _ _ (oG hy) (kT hx)) ?_;simp;refine alT hc ?_;simp
theorem Ud(x y:Rat):(x.den:Int)*y.den≠0:=Int.mul_ne_zero (by have:=x.den_nz;omega) (by have:=y.den_nz;omega)
theorem DP(x y:Rat)(hx:dE x)(hy:dE y):aI Tryz.prog 53 [cC x,cC y] (cC (x+y)):=by
 refine aj Tryz.func53 rfl (by simp) (fun C hC=>?_);simp;refine alT (ju _ _ (oG hx) (kT hy)) ?_;simp;refine alT (ju _ _ (oG hy) (kT hx)) ?_;simp;refine ae.alS (.qs [0,1,3,4,5,6]<|.l 2 []<|.l 7 []<|.l 8 []<|.l 9 [2]<|.nil) ?_;simp;refine alT (uc _ _ (CT hx.1 hy.2) (CT hy.1 hx.2)) ?_;simp;refine alT (ju _ _ (kT hx) (kT hy)) ?_;simp;refine alT (nM _ _ (ui (sf (fF hx.1 hy.2) (fF hy.1 hx.2)) (by omega)) (CT hx.2 hy.2) (Ud x y)) ?_;simp[←vp]
theorem D7(x y:Rat)(hx:dE x)(hy:dE y):aI Tryz.prog 52 [cC x,cC y] (cC (x*y)):=by
 refine aj Tryz.func52 rfl (by simp) (fun C hC=>?_);simp;refine ae.alS (.qs [0,1,2,3,5,6,7,8]<|.l 4 []<|.l 9 []<|.l 10 []<|.l 11 [2]<|.nil) ?_;simp;refine alT (ju _ _ (oG hx) (oG hy)) ?_;simp;refine alT (ju _ _ (kT hx) (kT hy)) ?_;simp;refine alT (nM _ _ (CT hx.1 hy.1) (CT hx.2 hy.2) (Ud x y)) ?_;simp[←we]
theorem CA(l:List SV):(strOf l).size=l.length:=by
 show(strOf l).data.size=_;unfold strOf strOfNums;simp
theorem BS{x:Int}(hx:fit x):(DY x).size≤20000000000000:=by
 have hw:wid 10 x.natAbs≤10000000000000:=amQ (tV _) (by unfold fit at hx;omega);unfold wid at hw;unfold DY yO;rw[CA];split
 ·simp
 ·split<;>simp<;>omega
theorem vW:({ data:=#[47] }:ByteArray).size=1:=rfl
def ff(q:Rat):ByteArray:=if q.den=1 then DY q.num else DY q.num++⟨#[47]⟩++DY q.den
theorem nR(q:Rat)(hq:dE q):aI Tryz.prog 33 [aY q] (.val (.string (ff q))):=by
 refine aj Tryz.func33 rfl (by simp) (fun C hC=>?_);simp;refine alT (eP q) ?_;by_cases h:q.den=1
 ·simp[h];refine alT (zl _ (ey hq)) ?_;simp[ff,h]
 ·simp[h];refine ae.alS (.qs [0,1,4]<|.l 2 []<|.qs [3]<|.l 5 []<|.l 6 []<|.qs [7,8]<|.nil) ?_;simp;refine alT (zl _ (ey hq)) ?_;simp;have t1:=BS (ey hq);have t2:=BS (gw hq);refine⟨by rw[vW];omega,?_⟩;refine alT (jx q hq) ?_;simp;refine alT (zl _ (gw hq)) ?_;simp[ff,h];rw[vW];omega
end Go.Proofs
namespace Go.Pl
end Go.Pl
namespace Go.Proofs
open Go.Sv Go Go.Pl
attribute [simp] uv
theorem EK{k:Nat}{x y:Int}(h:x.natAbs≤y.natAbs)(hy:fw k y):fw k x:=by unfold fw at *;exact amQ (bY (by omega) h) hy
theorem w7{k:Nat}{q:Rat}(h:qw k q):fw k q.floor:=by rw[Rat.floor_def];exact EK (Int.natAbs_ediv_le_natAbs _ _) h.1
theorem KG{k:Nat}{q:Rat}(h:qw k q):fw k q.ceil:=by
 rw[Rat.ceil_eq_neg_floor_neg];exact CU (w7 (lq h))
end Go.Proofs
namespace Go.Pl
def bld:List Int→Rat→Rat
 | [],x=>x
 | p::l,x=>(p:Rat)+(bld l x)⁻¹
def prd(q:Rat):Nat:=q.num.natAbs*q.den
end Go.Pl
namespace Go.Proofs
open Go.Sv Go Go.Pl
structure BI(k:Nat)(v:Rat)(P0:Nat)(parts:List Int)(low high:Rat)(n:Nat):Prop where
 l0:0<low
 lh:low≤high
 dn:low.den+high.den≤n
 kl:qw k low
 kh:qw k high
 kp:∀p∈parts,fw k p
 bv:bld parts (btw n low high)=v
 bk:∀i,i≤parts.length→qw k (bld (parts.drop i) (btw n low high))∧0<bld (parts.drop i) (btw n low high)
 wt:2^(parts.length - 1)*(prd low*prd high)≤P0
 o8:1≤parts.length→1<low
def bv(b:Bool):SV:=.val (.bool b)
theorem B7:aY 0=.agg [.val (.bool false),.ro [],.val (.bool false),.ro []]:=rfl
theorem za{q:Rat}:q.num<0↔q<0:=by
 have:=Rat.num_nonneg (q:=q);rw[←Rat.not_le,←this];omega
def kH:SV:=.agg [.val (.bool false),.ro [],.val (.bool false),.ro []]
@[simp] theorem XM:kH.fj=4:=rfl
@[simp] theorem O2:kH.aM=false:=rfl
@[simp] theorem NU:kH.isAgg=true:=rfl
@[simp] theorem RI(k:Nat):kH.bC k=false:=rfl
end Go.Proofs
set_option maxRecDepth 10000
namespace Go.Pl
open Go Go.Sv
def bA(s:ByteArray)(i c:Nat):Prop:=i<s.size∧jB s i=c
instance (s:ByteArray) (i c:Nat):Decidable (bA s i c):=inferInstanceAs (Decidable (_∧_))
def iO(s:ByteArray)(n:Nat):Int:=if minus s then -(n:Int) else n
def bQ(s:ByteArray)(e:Nat):Nat:=if bA s (e+1) 45∨bA s (e+1) 43 then e+2 else e+1
def cS(s:ByteArray)(num places e:Nat):Rat × Nat × Nat :=
 if bA s e 101 then
  if bQ s e+300<aw s (bQ s e) then(0,2,bQ s e+300)
  else if aw s (bQ s e)=bQ s e∨aw s (bQ s e)<s.size then(0,1,aw s (bQ s e))
  else if 60<nv s (bQ s e) (s.size - bQ s e) then(0,2,bQ s e)
  else if bA s (e+1) 45 then(aor (iO s num) ((10^(places+nv s (bQ s e) (s.size - bQ s e)):Nat):Int),0,0)
  else(aor (iO s (num*10^nv s (bQ s e) (s.size - bQ s e))) ((10^places:Nat):Int),0,0)
 else if e<s.size then(0,1,e)
 else(aor (iO s num) ((10^places:Nat):Int),0,0)
def eH(m:Nat)(s:ByteArray):Rat × Nat × Nat :=
 if ak s+m<aw s (ak s) then(0,2,ak s+m)
 else if aw s (ak s)=ak s then(0,1,ak s)
 else if bA s (aw s (ak s)) 47 then
  if aw s (ak s)+1+m<aw s (aw s (ak s)+1) then(0,2,aw s (ak s)+1+m)
  else if aw s (aw s (ak s)+1)=aw s (ak s)+1∨aw s (aw s (ak s)+1)<s.size then(0,1,aw s (aw s (ak s)+1))
  else if nv s (aw s (ak s)+1) (s.size - (aw s (ak s)+1))=0 then(0,3,aw s (ak s)+1)
  else(aor (iO s (nv s (ak s) (aw s (ak s) - ak s))) (nv s (aw s (ak s)+1) (s.size - (aw s (ak s)+1)):Int),0,0)
 else if bA s (aw s (ak s)) 46 then
  if aw s (ak s)+1+m<aw s (aw s (ak s)+1) then(0,2,aw s (ak s)+1+m)
  else if aw s (aw s (ak s)+1)=aw s (ak s)+1 then(0,1,aw s (ak s)+1)
  else cS s (nv s (ak s) (aw s (ak s) - ak s)*10^(aw s (aw s (ak s)+1) - (aw s (ak s)+1))+nv s (aw s (ak s)+1) (aw s (aw s (ak s)+1) - (aw s (ak s)+1)))
   (aw s (aw s (ak s)+1) - (aw s (ak s)+1)) (aw s (aw s (ak s)+1))
 else cS s (nv s (ak s) (aw s (ak s) - ak s)) 0 (aw s (ak s))
end Go.Pl
namespace Go.Proofs
open Go.Sv Go Go.Pl
def bu(s:ByteArray)(a:Nat)(x:SV):Option cx:=some ⟨3,[.agg [.val (.string s),.val (.int .i64 a),x]],false⟩
theorem iM{s:ByteArray}{a c:Nat}:((eG s a).toNat:Int)=c↔jB s a=c:=by unfold jB;omega
theorem bz{C:Ctx}{M:aJ}{k:Nat}{W:Option (List Nat)}{K:aJ→List Nat→SV→Prop}(s:ByteArray)(a c:Nat)(hk:ao M k=bu s a (.val .nilIface))(hs:s.size≤4611686018427387904)(hc:c<256)
  (hW:∀ks,W=some ks→∀i e,ao M i=some e→i∈ks)
  (h1:bA s a c→K (aN M k (bu s (a+1) (.val .nilIface))) [] (.val (.bool true))) (h2:¬bA s a c→K M [] (.val (.bool false))):dH Tryz.prog C 124 [.ptr k 0 0,.val (.int .u8 c)] M W K:=by
 refine eI Tryz.func124 rfl (by simp) [] (by simp) (fun ks h=>⟨rfl,hW ks h⟩) (fun C' hC=>?_);unfold bu at hk;simp;refine ae.alS (.qs [0,1,2,3,4,5,6,7,8,9,10,11,12,13,14,15,16,17,18,19,20,21,22,23,24,25,26,27,28,29]<|.nil) ?_;by_cases aF:a<s.size
 ·have hlt':¬s.size≤a:=by omega
  by_cases he:jB s a=c
  ·have he':=iM.2 he;have:=h1 ⟨aF,he⟩;unfold bu at this;simp(disch:=omega)[hk,aF,hlt',he',aP];exact this
  ·have he':¬((eG s a).toNat:Int)=c:=fun h=>he (iM.1 h);have:=h2 fun h=>he h.2;simp(disch:=omega)[hk,aF,hlt',he',aP];exact this
 ·have hlt':s.size≤a:=by omega
  have:=h2 fun h=>aF h.1;simp(disch:=omega)[hk,aF,hlt',aP];exact this
theorem uQ{C:Ctx}{M:aJ}{k k2:Nat}{W:Option (List Nat)}{K:aJ→List Nat→SV→Prop}(s:ByteArray)(a c:Nat)(hk:ao M k=bu s a (.iw fN (.ptr k2 0 0)))
  (hW:∀ks,W=some ks→∀i e,ao M i=some e→i∈ks) (h2:K M [] (.val (.bool false))):dH Tryz.prog C 124 [.ptr k 0 0,.val (.int .u8 c)] M W K:=by
 refine eI Tryz.func124 rfl (by simp) [] (by simp) (fun ks h=>⟨rfl,hW ks h⟩) (fun C' hC=>?_);unfold bu at hk;simp;refine ae.alS (.qs [0,1,2,3,4,5,6,7,8,9,10,11,12,13,14,15,16,17,18,19,20,21,22,23,24,25,26,27,28,29]<|.nil) ?_;simp[hk,h2]
theorem vD{C:Ctx}{M:aJ}{k k2:Nat}{W:Option (List Nat)}{K:aJ→List Nat→SV→Prop}(s:ByteArray)(a:Nat)(e:SV)(p:Int)(hk:ao M k=bu s a (.iw fN (.ptr k2 0 0)))
  (hW:∀ks,W=some ks→∀i e,ao M i=some e→i∈ks) (h2:K M [] (.bG [])):dH Tryz.prog C 126 [.ptr k 0 0,e,.val (.int .i64 p)] M W K:=by
 refine eI Tryz.func126 rfl (by simp) [] (by simp) (fun ks h=>⟨rfl,hW ks h⟩) (fun C' hC=>?_);unfold bu at hk;simp[hk,h2]
theorem lJ{C:Ctx}{M:aJ}{k:Nat}{W:Option (List Nat)}{K:aJ→List Nat→SV→Prop}(s:ByteArray)(a g:Nat)(p:Int)(hk:ao M k=bu s a (.val .nilIface))
  (hW:∀ks,W=some ks→∀i e,ao M i=some e→i∈ks)
  (h2:K (aN M k (bu s a (.iw fN (.ptr M.length 0 0)))++[some ⟨2,[.agg [.val (.int .i64 p),.fp eM g]],false⟩]) [] (.bG [])):dH Tryz.prog C 126 [.ptr k 0 0,.fp eM g,.val (.int .i64 p)] M W K:=by
 refine eI Tryz.func126 rfl (by simp) [] (by simp) (fun ks h=>⟨rfl,hW ks h⟩) (fun C' hC=>?_);have q1:=fun x=>mu x (show ao M k=some ⟨3,[.agg [.val (.string s),.val (.int .i64 a),.val .nilIface]],false⟩ from hk);have q3:=fun x y=>qN x y (show ao M k=some ⟨3,[.agg [.val (.string s),.val (.int .i64 a),.val .nilIface]],false⟩ from hk);unfold bu at hk h2;simp[hk,q1,q3];exact h2
theorem KY{M:aJ}{i:Nat}{e:cx}(h:ao M i=some e):i<M.length:=by
 have:=aL h;exact(List.getElem?_eq_some_iff.1 this).1
theorem Io{n i:Nat}(hn:n<1000000)(h:i<n):i∈nb (List.range n):=by
 simp[nb,o8];omega
theorem cM{C:Ctx}{M:aJ}{k:Nat}{K:aJ→List Nat→SV→Prop}(s:ByteArray)(a:Nat)(hk:ao M k=bu s a (.val .nilIface))(hs:s.size≤4611686018427387904)(ha:a≤s.size)(hM:M.length<1000000)
  (h1:a+300<aw s a→K (aN M k (bu s (a+300) (.iw fN (.ptr M.length 0 0)))++[some ⟨2,[.agg [.val (.int .i64 ((a+300:Nat):Int)),.fp eM (pT 2)]],false⟩]) [] (.val (.string ⟨#[]⟩)))
  (h2:aw s a=a→K (aN M k (bu s a (.iw fN (.ptr M.length 0 0)))++[some ⟨2,[.agg [.val (.int .i64 a),.fp eM (pT 1)]],false⟩]) [] (.val (.string ⟨#[]⟩)))
  (h3:¬a+300<aw s a→a<aw s a→K (aN M k (bu s (aw s a) (.val .nilIface))) [] (.val (.string (s.extract a (aw s a))))) :
  dH Tryz.prog C 125 [.ptr k 0 0] M none K:=by
 refine eI Tryz.func125 rfl (by simp) [] (by simp) (by simp) (fun C' hC=>?_);have hk0:ao M k=some ⟨3,[.agg [.val (.string s),.val (.int .i64 a),.val .nilIface]],false⟩:=hk;have hall:∀(x:Option cx) ks,some (nb (List.range M.length))=some ks→∀(i:Nat) e,ao (aN M k x) i=some e→i∈ks:=fun x ks hks i e he=>by
  simp only[Option.some.injEq]at hks;rw[←hks];have:=KY he;rw[rn]at this;exact Io hM this
 simp[hk0];refine ae.loop (ι:=Nat) (fun i=>⟨93,[(0,.ptr k 0 0),(2,.val (.string ⟨#[]⟩)),(3,.val (.int .i64 a))],aN M k (bu s i (.val .nilIface))⟩)
  (fun i=>a≤i∧i≤s.size∧i≤a+300∧∀j,a≤j→j<i→bj s j) (fun i=>s.size - i) a ?_ ?_ ?_
 ·exact⟨Nat.le_refl _,ha,by omega,fun j h h'=>by omega⟩
 ·simp[ar,bu,lL hk0]
 ·rintro i ⟨g1,g2,g3,g4⟩;have hk1:ao (aN M k (bu s i (.val .nilIface))) k=some ⟨3,[.agg [.val (.string s),.val (.int .i64 i),.val .nilIface]],false⟩:=gm _ hk0;have stop:¬bj s i→aw s a=i:=fun h=>kI g1 g4 h;simp;refine ae.alS (.qs [0,1,2,3,4,5,6,7,8,9,10,11,12,13,14,15,16,17,18,19,20,21,22,23,24,25,26,27,28,29,30,31,32,33,34,35,36,37,38,39,40]<|.nil) ?_;by_cases hd:bj s i
  ·have aF:=hd.1;have hc1:(48:Int)≤(eG s i).toNat:=by have:=hd.2.1;unfold jB at this;omega
   have hc2:((eG s i).toNat:Int)≤57:=by have:=hd.2.2;unfold jB at this;omega
   have all:∀j,a≤j→j<i+1→bj s j:=fun j k1 k2=>by
    by_cases e:j=i
    ·subst e;exact hd
    ·exact g4 j k1 (by omega)
   by_cases hb:i=a+300
   ·have hb':(i:Int) - a=300:=by omega
    have hgt:=yu g1 fun j k1 k2=>all j k1 (by omega);have:=h1 (by omega);rw[←hb]at this;simp(disch:=omega)[hk1,aF,hc1,hc2,hb',aP];refine ae.alS (.qs [0,1,2,3,4,5]<|.l 6 (List.range M.length)<|.nil) ?_;simp[hk1];refine lJ s i _ _ (gm _ hk0) (hall _) ?_;simp[bu];exact this
   ·have hb':¬(i:Int) - a=300:=by omega
    simp(disch:=omega)[hk1,aF,hc1,hc2,hb',aP];exact⟨i+1,⟨by omega,by omega,by omega,all⟩,by omega,by simp[ar,bu]⟩
  ·have hE:=stop hd;have fin:(¬i<s.size∨i<s.size∧¬(48:Int)≤(eG s i).toNat)∨i<s.size∧(48:Int)≤(eG s i).toNat∧¬((eG s i).toNat:Int)≤57:=by
    by_cases h1:i<s.size
    ·by_cases h2:(48:Int)≤(eG s i).toNat
     ·refine .inr ⟨h1,h2,fun h3=>hd ⟨h1,?_,?_⟩⟩<;>unfold jB<;>omega
     ·exact .inl (.inr ⟨h1,h2⟩)
    ·exact .inl (.inl h1)
   rcases fin with(n1 | ⟨n1,n2⟩) | ⟨n1,n2,n3⟩;all_goals first | simp(disch:=omega)[hk1,n1,n2,n3,aP] | simp(disch:=omega)[hk1,n1,n2,aP] | simp(disch:=omega)[hk1,n1,aP]
   all_goals
    by_cases he:i=a
    ·have h2':=h2 (hE.trans he);subst he;simp[hk1];refine ae.alS (.qs [0,1,2,3,4,5]<|.l 6 (List.range M.length)<|.nil) ?_;simp[hk1];refine lJ s i _ _ (gm _ hk0) (hall _) ?_;have q1:=fun x=>mu x (gm (M:=M) (k:=k) ⟨3,[.agg [.val (.string s),.val (.int .i64 i),.iw fN (.ptr M.length 0 0)]],false⟩ hk0);simp[bu];refine ae.alS (.qs [0,1,2,3,4,5,6,7,8,9,10]<|.nil) ?_;simp[bu,q1];exact⟨by omega,h2'⟩
    ·have he':¬(i:Int)=a:=by omega
     have h3':=h3 (by omega) (by omega);rw[hE]at h3';simp[he'];refine ae.alS (.qs [0,1,2,3,4,5,6,7,8,9,10]<|.nil) ?_;simp[hk1];exact⟨by omega,h3'⟩
end Go.Proofs

