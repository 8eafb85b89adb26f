/- A text of the prover's own. -/
import Derived.Test.YtnimjdcaajmfcaaGreatDoorVQe
import Derived.Test.YtnimjdcaajmfcaaGreatDoorVNa
open Nat renaming le_trans->ayr
open Go.Proofs.Tryz renaming prog->ay9,func155->aBq,func157->aBr
open Rat renaming divInt->aBa
set_option maxRecDepth 10000
namespace Go.Proofs
open Go.Sv Go Go.Pl
def aZ(q:Rat):SV:=.agg [.val (.bool (decide (q.num<0))),.ro ((bO 10000 q.num.natAbs).map i64),.val (.bool false),.ro ((bO 10000 q.den).map i64)]
@[simp] theorem ajT(x:Rat):(aZ x).ir=4:=rfl
@[simp] theorem YV(x:Rat):(aZ x).aW=false:=rfl
@[simp] theorem ZX(x:Rat):(aZ x).isAgg=true:=rfl
@[simp] theorem af8(x:Rat):(aZ x).pure=true:=rfl
@[simp] theorem ams(n:Nat)(x:Rat):(aZ x).lt n=true:=rfl
@[simp] theorem aeL(k:Nat)(x:Rat):(aZ x).cD k=false:=rfl
@[simp] theorem ahP(M:aC)(x:Rat)(y:SV):Sub M (aZ x) y=(y=aZ x):=by
 cases y with
 | agg l =>
  match l with
  | []=>simp[aZ,cP]
  | [a]=>simp[aZ,Sv.Sub,cP]
  | [a,b]=>simp[aZ,Sv.Sub,cP]
  | [a,b,c]=>simp[aZ,Sv.Sub,cP]
  | a::b::c::d::e::r=>simp[aZ,Sv.Sub,cP]
  | [a,b,c,d]=>cases a<;>cases c<;>simp[aZ,Sv.Sub,cP]<;>grind
 | _=>simp[aZ,Sv.Sub]
@[simp] theorem ahz(q:Rat):SV.agg ((aZ q).cells.take 2)=e9 q.num:=rfl
@[simp] theorem aib(q:Rat):SV.agg (((aZ q).cells.drop 2).take 2)=e9 (q.den:Int):=by simp[e9];rfl
@[simp] theorem XU(x:Int):(e9 x).cells=[.val (.bool (decide (x<0))),.ro ((bO 10000 x.natAbs).map i64)]:=rfl
theorem yX{k x}(h:fw k x)(hk:k<=100000000000):eO x:=by unfold fw at h;have h1:=zm x.natAbs;have h2:=zI (A:=10) (B:=10000) (by omega) (by omega) x.natAbs;unfold eO;omega
theorem ld{q:Rat}(h:j4 q):eO q.num:=yX h.1 (by omega)
theorem jG{q:Rat}(h:j4 q):eO q.den:=yX h.2 (by omega)
theorem D7{a b:Int}(ha:fw 10000000000 a)(hb:fw 10000000000 b):eO (a*b):=yX (iD ha hb) (by omega)
theorem On{x y:Int}(hy:eO y)(h:y≠0):eO ((Int.gcd x y:Nat):Int):=Ek (by have:=Nat.le_of_dvd (by omega) (Nat.gcd_dvd_right x.natAbs y.natAbs);simpa[Int.gcd]using this) hy
theorem oa(n d:Int)(hn:eO n)(hd:eO d)(h0:d≠0):aE ay9 98 [e9 n,e9 d] (aZ (aBa n d)):=by
 refine aj Tryz.func98 rfl (by simp) (λC hC=>?_);obtain⟨q,hq⟩:∃q,q=aBa n d:=⟨_,rfl⟩;rw[<-hq];by_cases ab:d<0
 case' pos =>
  simp[ab];obtain⟨x,hx⟩:∃x,x = -n:=⟨_,rfl⟩;obtain⟨y,hy⟩:∃y,y = -d:=⟨_,rfl⟩;have n1:=yQ n;have n2:=yQ d;rw[<-hx]at n1;rw[<-hy]at n2;have ai:0<y:=by omega
  have ak:eO x:=by rw[hx];exact oI.2 hn
  have ah:eO y:=by rw[hy];exact oI.2 hd
  obtain⟨e1,e2⟩:=pO (x:=x) ai (hq.trans (by rw[hx,hy,Rat.neg_divInt_neg]));refine awI n1 ?_;simp;refine awI n2 ?_;simp;clear hx hy n1 n2 ab hq hn hd
 case' neg =>
  simp[ab];have ai:0<d:=by omega
  obtain⟨e1,e2⟩:=pO ai hq;obtain⟨x,rfl⟩:∃x,x=n:=⟨_,rfl⟩;obtain⟨y,rfl⟩:∃y,y=d:=⟨_,rfl⟩;have ak:=hn;have ah:=hd;clear ab hq hn hd
 all_goals
  refine awI (SL x y ak ah) ?_;have an:=On (x:=x) ah (by omega);have ax:(0:Int)<(Int.gcd x y:Nat):=by have:=Int.gcd_pos_of_ne_zero_right x (b:=y) (by omega);omega
  generalize ((Int.gcd x y:Nat):Int)=g at *;have ao:=Al x g ak an;have ap:=Al y g ah an;rw[e1]at ao;rw[e2]at ap;simp;refine awI ao ?_;simp;refine awI ap ?_;simp[aZ,Sv.Sub,cP]
theorem E5(q:Rat):aE ay9 14 [aZ q] (.val (.int .i64 q.num.sign)):=by refine aj Tryz.func14 rfl (by simp) (λC hC=>?_);simp;refine awI (Qu _) ?_;simp
theorem N6(M:aC)(x:Int):Sub M (.agg [.val (.bool (decide (x<0))),.ro ((bO 10000 x.natAbs).map i64),.val (.bool false),.ro ((bO 10000 1).map i64)]) (aZ (x:Rat)):=by simp[aZ,Sv.Sub,cP];rfl
theorem JA(n:Int)(h1 : -9223372036854775807<=n)(h2:n<=9223372036854775807):aE ay9 46 [.val (.int .i64 n)] (aZ (n:Rat)):=by refine aj Tryz.func46 rfl (by simp) (λC hC=>?_);simp;refine awI (kd n h1 h2) ?_;simp;refine awI (kd 1 (by omega) (by omega)) ?_;simp;exact N6 _ n
theorem Tq{x:Nat}:(bO 10000 x).length=1∧dg (bO 10000 x) 0=1↔x=1:=by
 constructor
 ·rintro⟨h1,h2⟩;have hv:=cB (B:=10000) (by omega) x
  match hd:bO 10000 x,h1 with
  | [d],_ =>
   rw[hd]at hv h2;simp[dg]at h2;simp[val,h2]at hv;omega
 ·rintro rfl;decide
theorem xJ(q:Rat):aE ay9 57 [aZ q] (.val (.bool (decide (q.den=1)))):=by
 refine aj Tryz.func57 rfl (by simp) (λC hC=>?_);have key:=Tq (x:=q.den);simp only[aZ];generalize bO 10000 q.den=L at *;obtain⟨b,hb⟩:∃b,b=decide (q.den=1):=⟨_,rfl⟩;rw[<-hb];by_cases h:L.length=1
 ·have h':(L.length:Int)=1:=by omega
  have e:=dU (xs:=L) (i:=0) (by omega);by_cases h2:dg L 0=1
  ·have:b=true:=by simp[hb];exact key.1 ⟨h,h2⟩
   simp[e,h2,this,h]
  ·have:b=false:=by simp[hb];exact λhh=>h2 (key.2 hh).2
   have al:¬((dg L 0:Nat):Int)=1:=by omega
   simp[e,al,this,h]
 ·have h':¬(L.length:Int)=1:=by omega
  have:b=false:=by simp[hb];exact λhh=>h (key.2 hh).1
  simp[h',this]
theorem KS(q:Rat):aE ay9 48 [aZ q] (aZ (-q)):=by refine aj Tryz.func48 rfl (by simp) (λC hC=>?_);simp;refine aa.awH (.qs [0,1,3,4]<|.l 2 []<|.qs [5]<|.l 6 [1]<|.nil) ?_;simp;refine awI (yQ _) ?_;simp[aZ,Sv.Sub,cP]
theorem R9(x y:Rat)(hx:j4 x)(hy:j4 y):aE ay9 83 [aZ x,aZ y] (.val (.int .i64 (if x<y then -1 else if y<x then 1 else 0))):=by refine aj Tryz.func83 rfl (by simp) (λC hC=>?_);have hc:=Rn (x.num*y.den) (y.num*x.den) (ayr (D7 hx.1 hy.2) (by omega)) (ayr (D7 hy.1 hx.2) (by omega));simp only[<-Rat.lt_iff]at hc;simp;refine awI (jm _ _ (ld hx) (jG hy)) ?_;simp;refine awI (jm _ _ (ld hy) (jG hx)) ?_;simp;refine awI hc ?_;simp
theorem ael(x y:Rat):(x.den:Int)*y.den≠0:=Int.mul_ne_zero (by have:=x.den_nz;omega) (by have:=y.den_nz;omega)
theorem m4(x y:Rat)(hx:j4 x)(hy:j4 y):aE ay9 68 [aZ x,aZ y] (aZ (x+y)):=by refine aj Tryz.func68 rfl (by simp) (λC hC=>?_);simp;refine awI (jm _ _ (ld hx) (jG hy)) ?_;simp;refine awI (jm _ _ (ld hy) (jG hx)) ?_;simp;refine aa.awH (.qs [0,1,3,4,5,6]<|.l 2 []<|.l 7 []<|.l 8 []<|.l 9 [2]<|.nil) ?_;simp;refine awI (za _ _ (D7 hx.1 hy.2) (D7 hy.1 hx.2)) ?_;simp;refine awI (jm _ _ (jG hx) (jG hy)) ?_;simp;refine awI (oa _ _ (yX (Bj (iD hx.1 hy.2) (iD hy.1 hx.2)) (by omega)) (D7 hx.2 hy.2) (ael x y)) ?_;simp[<-Bs]
theorem KX(x y:Rat)(hx:j4 x)(hy:j4 y):aE ay9 146 [aZ x,aZ y] (aZ (x - y)):=by refine aj Tryz.func146 rfl (by simp) (λC hC=>?_);simp;refine awI (KS y) ?_;simp;refine awI (m4 x (-y) hx (fh hy)) ?_;simp[Rat.sub_eq_add_neg]
theorem lF(x y:Rat)(hx:j4 x)(hy:j4 y):aE ay9 47 [aZ x,aZ y] (aZ (x*y)):=by refine aj Tryz.func47 rfl (by simp) (λC hC=>?_);simp;refine aa.awH (.qs [0,1,2,3,5,6,7,8]<|.l 4 []<|.l 9 []<|.l 10 []<|.l 11 [2]<|.nil) ?_;simp;refine awI (jm _ _ (ld hx) (ld hy)) ?_;simp;refine awI (jm _ _ (jG hx) (jG hy)) ?_;simp;refine awI (oa _ _ (D7 hx.1 hy.1) (D7 hx.2 hy.2) (ael x y)) ?_;simp[<-zE]
theorem S8(x y:Rat)(hx:j4 x)(hy:j4 y)(h0:y≠0):aE ay9 101 [aZ x,aZ y] (aZ (x / y)):=by refine aj Tryz.func101 rfl (by simp) (λC hC=>?_);simp;refine aa.awH (.qs [0,1,2,3,5,6,7,8]<|.l 4 []<|.l 9 []<|.l 10 []<|.l 11 [2]<|.nil) ?_;simp;refine awI (jm _ _ (ld hx) (jG hy)) ?_;simp;refine awI (jm _ _ (jG hx) (ld hy)) ?_;simp;refine awI (oa _ _ (D7 hx.1 hy.2) (D7 hx.2 hy.1) (Int.mul_ne_zero (by have:=x.den_nz;omega) (λh=>h0 (Rat.num_eq_zero.1 h)))) ?_;simp[<-AZ]
theorem HU(l:List SV):(strOf l).size=l.length:=by show(strOf l).data.size=_;unfold strOf strOfNums;simp
theorem uY{x:Int}(hx:fit x):(Fm x).size<=20000000000000:=by
 have hw:wid 10 x.natAbs<=10000000000000:=ayr (zm _) (by unfold fit at hx;omega);unfold wid at hw;unfold Fm BT;rw[HU];split
 ·simp
 ·split<;>simp<;>omega
theorem o9:({ data:=#[47] }:ByteArray).size=1:=rfl
def mT(q:Rat):ByteArray:=if q.den=1 then Fm q.num else Fm q.num++⟨#[47]⟩++Fm q.den
theorem AU(q:Rat)(hq:j4 q):aE ay9 17 [aS q] (.val (.string (mT q))):=by
 refine aj Tryz.func17 rfl (by simp) (λC hC=>?_);simp;refine awI (iH q) ?_;by_cases h:q.den=1
 ·simp[h];refine awI (DW _ (eI hq)) ?_;simp[mT,h]
 ·simp[h];refine aa.awH (.qs [0,1,4]<|.l 2 []<|.qs [3]<|.l 5 []<|.l 6 []<|.qs [7,8]<|.nil) ?_;simp;refine awI (DW _ (eI hq)) ?_;simp;have t1:=uY (eI hq);have t2:=uY (iT hq);refine⟨by rw[o9];omega,?_⟩;refine awI (lH q hq) ?_;simp;refine awI (DW _ (iT hq)) ?_;simp[mT,h];rw[o9];omega
end Go.Proofs
namespace Go.Pl
end Go.Pl
namespace Go.Proofs
open Go.Sv Go Go.Pl
attribute [simp] y9
theorem Uq{k:Nat}{x y:Int}(h:x.natAbs<=y.natAbs)(hy:fw k y):fw k x:=by unfold fw at *;exact ayr (cH (by omega) h) hy
end Go.Proofs
namespace Go.Pl
def bld:List Int->Rat->Rat
 | [],x=>x
 | p::l,x=>(p:Rat)+(bld l x)⁻¹
def prd(q:Rat):Nat:=q.num.natAbs*q.den
end Go.Pl
namespace Go.Proofs
open Go.Sv Go Go.Pl
structure BI(k:Nat)(v:Rat)(P0:Nat)(parts:List Int)(low high:Rat)(n:Nat):Prop where
 l0:0<low
 lh:low<=high
 dn:low.den+high.den<=n
 kl:qw k low
 kh:qw k high
 kp:∀p∈parts,fw k p
 bv:bld parts (btw n low high)=v
 bk:∀i,i<=parts.length->qw k (bld (parts.drop i) (btw n low high))∧0<bld (parts.drop i) (btw n low high)
 wt:2^(parts.length - 1)*(prd low*prd high)<=P0
 tY:1<=parts.length->1<low
def bv(b:Bool):SV:=.val (.bool b)
theorem Gy:aS 0=.agg [.val (.bool false),.ro [],.val (.bool false),.ro []]:=rfl
theorem Ki{q:Rat}:q.num<0↔q<0:=by have:=Rat.num_nonneg (q:=q);rw[<-Rat.not_le,<-this];omega
def nT:SV:=.agg [.val (.bool false),.ro [],.val (.bool false),.ro []]
@[simp] theorem ae7:nT.ir=4:=rfl
@[simp] theorem UQ:nT.aW=false:=rfl
@[simp] theorem Wf:nT.isAgg=true:=rfl
@[simp] theorem Yw(k:Nat):nT.cD k=false:=rfl
end Go.Proofs
set_option maxRecDepth 10000
namespace Go.Pl
open Go Go.Sv
def bR(s:ByteArray)(i c:Nat):Prop:=i<s.size∧kJ s i=c
instance (s:ByteArray) (i c:Nat):Decidable (bR s i c):=inferInstanceAs (Decidable (_∧_))
def jZ(s:ByteArray)(n:Nat):Int:=if minus s then -(n:Int) else n
def cz(s:ByteArray)(e:Nat):Nat:=if bR s (e+1) 45∨bR s (e+1) 43 then e+2 else e+1
def dC(s:ByteArray)(num places e:Nat):Rat × Nat × Nat :=
 if bR s e 101 then
  if cz s e+300<aK s (cz s e) then(0,2,cz s e+300)
  else if aK s (cz s e)=cz s e∨aK s (cz s e)<s.size then(0,1,aK s (cz s e))
  else if 60<nv s (cz s e) (s.size - cz s e) then(0,2,cz s e)
  else if bR s (e+1) 45 then(aBa (jZ s num) ((10^(places+nv s (cz s e) (s.size - cz s e)):Nat):Int),0,0)
  else(aBa (jZ s (num*10^nv s (cz s e) (s.size - cz s e))) ((10^places:Nat):Int),0,0)
 else if e<s.size then(0,1,e)
 else(aBa (jZ s num) ((10^places:Nat):Int),0,0)
def gm(m:Nat)(s:ByteArray):Rat × Nat × Nat :=
 if av s+m<aK s (av s) then(0,2,av s+m)
 else if aK s (av s)=av s then(0,1,av s)
 else if bR s (aK s (av s)) 47 then
  if aK s (av s)+1+m<aK s (aK s (av s)+1) then(0,2,aK s (av s)+1+m)
  else if aK s (aK s (av s)+1)=aK s (av s)+1∨aK s (aK s (av s)+1)<s.size then(0,1,aK s (aK s (av s)+1))
  else if nv s (aK s (av s)+1) (s.size - (aK s (av s)+1))=0 then(0,3,aK s (av s)+1)
  else(aBa (jZ s (nv s (av s) (aK s (av s) - av s))) (nv s (aK s (av s)+1) (s.size - (aK s (av s)+1)):Int),0,0)
 else if bR s (aK s (av s)) 46 then
  if aK s (av s)+1+m<aK s (aK s (av s)+1) then(0,2,aK s (av s)+1+m)
  else if aK s (aK s (av s)+1)=aK s (av s)+1 then(0,1,aK s (av s)+1)
  else dC s (nv s (av s) (aK s (av s) - av s)*10^(aK s (aK s (av s)+1) - (aK s (av s)+1))+nv s (aK s (av s)+1) (aK s (aK s (av s)+1) - (aK s (av s)+1)))
   (aK s (aK s (av s)+1) - (aK s (av s)+1)) (aK s (aK s (av s)+1))
 else dC s (nv s (av s) (aK s (av s) - av s)) 0 (aK s (av s))
end Go.Pl
namespace Go.Proofs
open Go.Sv Go Go.Pl
def bQ(s:ByteArray)(a:Nat)(x:SV):Option cJ:=some ⟨3,[.agg [.val (.string s),.val (.int .i64 a),x]],false⟩
theorem jX{s:ByteArray}{a c:Nat}:((eL s a).toNat:Int)=c↔kJ s a=c:=by unfold kJ;omega
theorem bP{C:Ctx}{M:aC}{k:Nat}{W:Option (List Nat)}{K:aC->List Nat->SV->Prop}(s:ByteArray)(a c:Nat)(hk:aA M k=bQ s a (.val .nilIface))(hs:s.size<=4611686018427387904)(hc:c<256)
  (hW:∀ks,W=some ks->∀i e,aA M i=some e->i∈ks)
  (h1:bR s a c->K (aX M k (bQ s (a+1) (.val .nilIface))) [] (.val (.bool true))) (h2:¬bR s a c->K M [] (.val (.bool false))):dK ay9 C 155 [.ptr k 0 0,.val (.int .u8 c)] M W K:=by
 refine ep aBq rfl (by simp) [] (by simp) (λks h=>⟨rfl,hW ks h⟩) (λC' hC=>?_);unfold bQ at hk;simp;refine aa.awH (.qs [0,1,2,3,4,5,6,7,8,9,10,11,12,13,14,15,16,17,18,19,20,21,22,23,24,25,26,27,28,29]<|.nil) ?_;by_cases aR:a<s.size
 ·have ac:¬s.size<=a:=by omega
  by_cases he:kJ s a=c
  ·have af:=jX.2 he;have:=h1 ⟨aR,he⟩;unfold bQ at this;simp(disch:=omega)[hk,aR,ac,af,aD];exact this
  ·have af:¬((eL s a).toNat:Int)=c:=λh=>he (jX.1 h);have:=h2 λh=>he h.2;simp(disch:=omega)[hk,aR,ac,af];exact this
 ·have ac:s.size<=a:=by omega
  have:=h2 λh=>aR h.1;simp(disch:=omega)[hk,ac];exact this
theorem Am{C:Ctx}{M:aC}{k k2:Nat}{W:Option (List Nat)}{K:aC->List Nat->SV->Prop}(s:ByteArray)(a c:Nat)(hk:aA M k=bQ s a (.ju gZ (.ptr k2 0 0)))
  (hW:∀ks,W=some ks->∀i e,aA M i=some e->i∈ks) (h2:K M [] (.val (.bool false))):dK ay9 C 155 [.ptr k 0 0,.val (.int .u8 c)] M W K:=by
 refine ep aBq rfl (by simp) [] (by simp) (λks h=>⟨rfl,hW ks h⟩) (λC' hC=>?_);unfold bQ at hk;simp;refine aa.awH (.qs [0,1,2,3,4,5,6,7,8,9,10,11,12,13,14,15,16,17,18,19,20,21,22,23,24,25,26,27,28,29]<|.nil) ?_;simp[hk,h2]
theorem z3{C:Ctx}{M:aC}{k k2:Nat}{W:Option (List Nat)}{K:aC->List Nat->SV->Prop}(s:ByteArray)(a:Nat)(e:SV)(p:Int)(hk:aA M k=bQ s a (.ju gZ (.ptr k2 0 0)))
  (hW:∀ks,W=some ks->∀i e,aA M i=some e->i∈ks) (h2:K M [] (.bM [])):dK ay9 C 157 [.ptr k 0 0,e,.val (.int .i64 p)] M W K:=by
 refine ep aBr rfl (by simp) [] (by simp) (λks h=>⟨rfl,hW ks h⟩) (λC' hC=>?_);unfold bQ at hk;simp[hk,h2]
theorem n9{C:Ctx}{M:aC}{k:Nat}{W:Option (List Nat)}{K:aC->List Nat->SV->Prop}(s:ByteArray)(a g:Nat)(p:Int)(hk:aA M k=bQ s a (.val .nilIface))
  (hW:∀ks,W=some ks->∀i e,aA M i=some e->i∈ks)
  (h2:K (aX M k (bQ s a (.ju gZ (.ptr M.length 0 0)))++[some ⟨2,[.agg [.val (.int .i64 p),.fT fD g]],false⟩]) [] (.bM [])):dK ay9 C 157 [.ptr k 0 0,.fT fD g,.val (.int .i64 p)] M W K:=by
 refine ep aBr rfl (by simp) [] (by simp) (λks h=>⟨rfl,hW ks h⟩) (λC' hC=>?_);have q1:=λx=>pS x (show aA M k=some ⟨3,[.agg [.val (.string s),.val (.int .i64 a),.val .nilIface]],false⟩ from hk);have q3:=λx y=>vt x y (show aA M k=some ⟨3,[.agg [.val (.string s),.val (.int .i64 a),.val .nilIface]],false⟩ from hk);unfold bQ at hk h2;simp[hk,q1,q3];exact h2
theorem Ry{M:aC}{i:Nat}{e:cJ}(h:aA M i=some e):i<M.length:=by have:=aU h;exact(List.getElem?_eq_some_iff.1 this).1
theorem Qi{n i:Nat}(hn:n<1000000)(h:i<n):i∈nb (List.range n):=by simp[nb,tY];omega
theorem cZ{C:Ctx}{M:aC}{k:Nat}{K:aC->List Nat->SV->Prop}(s:ByteArray)(a:Nat)(hk:aA M k=bQ s a (.val .nilIface))(hs:s.size<=4611686018427387904)(ha:a<=s.size)(hM:M.length<1000000)
  (h1:a+300<aK s a->K (aX M k (bQ s (a+300) (.ju gZ (.ptr M.length 0 0)))++[some ⟨2,[.agg [.val (.int .i64 ((a+300:Nat):Int)),.fT fD (uo 2)]],false⟩]) [] (.val (.string ⟨#[]⟩)))
  (h2:aK s a=a->K (aX M k (bQ s a (.ju gZ (.ptr M.length 0 0)))++[some ⟨2,[.agg [.val (.int .i64 a),.fT fD (uo 1)]],false⟩]) [] (.val (.string ⟨#[]⟩)))
  (h3:¬a+300<aK s a->a<aK s a->K (aX M k (bQ s (aK s a) (.val .nilIface))) [] (.val (.string (s.extract a (aK s a))))) :
  dK ay9 C 156 [.ptr k 0 0] M none K:=by
 refine ep Tryz.func156 rfl (by simp) [] (by simp) (by simp) (λC' hC=>?_);have ae:aA M k=some ⟨3,[.agg [.val (.string s),.val (.int .i64 a),.val .nilIface]],false⟩:=hk;have ag:∀(x:Option cJ) ks,some (nb (List.range M.length))=some ks->∀(i:Nat) e,aA (aX M k x) i=some e->i∈ks:=λx ks aq i e he=>by simp only[Option.some.injEq]at aq;rw[<-aq];have:=Ry he;rw[uT]at this;exact Qi hM this
 simp[ae];refine aa.loop (ι:=Nat) (λi=>⟨93,[(0,.ptr k 0 0),(2,.val (.string ⟨#[]⟩)),(3,.val (.int .i64 a))],aX M k (bQ s i (.val .nilIface))⟩)
  (λi=>a<=i∧i<=s.size∧i<=a+300∧∀j,a<=j->j<i->bI s j) (λi=>s.size - i) a ?_ ?_ ?_
 ·exact⟨Nat.le_refl _,ha,by omega,λj h h'=>by omega⟩
 ·simp[aP,bQ,ot ae]
 ·rintro i ⟨g1,g2,g3,g4⟩;have ad:aA (aX M k (bQ s i (.val .nilIface))) k=some ⟨3,[.agg [.val (.string s),.val (.int .i64 i),.val .nilIface]],false⟩:=iM _ ae;have stop:¬bI s i->aK s a=i:=λh=>nL g1 g4 h;simp;refine aa.awH (.qs [0,1,2,3,4,5,6,7,8,9,10,11,12,13,14,15,16,17,18,19,20,21,22,23,24,25,26,27,28,29,30,31,32,33,34,35,36,37,38,39,40]<|.nil) ?_;by_cases hd:bI s i
  ·have aR:=hd.1;have ar:(48:Int)<=(eL s i).toNat:=by have:=hd.2.1;unfold kJ at this;omega
   have au:((eL s i).toNat:Int)<=57:=by have:=hd.2.2;unfold kJ at this;omega
   have all:∀j,a<=j->j<i+1->bI s j:=λj k1 k2=>by
    by_cases e:j=i
    ·subst e;exact hd
    ·exact g4 j k1 (by omega)
   by_cases hb:i=a+300
   ·have am:(i:Int) - a=300:=by omega
    have ay:=ES g1 λj k1 k2=>all j k1 (by omega);have:=h1 (by omega);rw[<-hb]at this;simp(disch:=omega)[ad,aR,ar,au,am,aD];refine aa.awH (.qs [0,1,2,3,4,5]<|.l 6 (List.range M.length)<|.nil) ?_;simp[ad];refine n9 s i _ _ (iM _ ae) (ag _) ?_;simp[bQ];exact this
   ·have am:¬(i:Int) - a=300:=by omega
    simp(disch:=omega)[ad,aR,ar,au,am,aD];exact⟨i+1,⟨by omega,by omega,by omega,all⟩,by omega,by simp[aP,bQ]⟩
  ·have hE:=stop hd;have fin:(¬i<s.size∨i<s.size∧¬(48:Int)<=(eL s i).toNat)∨i<s.size∧(48:Int)<=(eL s i).toNat∧¬((eL s i).toNat:Int)<=57:=by
    by_cases h1:i<s.size
    ·by_cases h2:(48:Int)<=(eL s i).toNat
     ·refine .inr ⟨h1,h2,λh3=>hd ⟨h1,?_,?_⟩⟩<;>unfold kJ<;>omega
     ·exact .inl (.inr ⟨h1,h2⟩)
    ·exact .inl (.inl h1)
   rcases fin with(n1 | ⟨n1,n2⟩) | ⟨n1,n2,n3⟩;all_goals first | simp(disch:=omega)[ad,n1,n2,n3] | simp(disch:=omega)[ad,n1,n2] | simp(disch:=omega)[ad,n1]
   all_goals
    by_cases he:i=a
    ·have al:=h2 (hE.trans he);subst he;simp[];refine aa.awH (.qs [0,1,2,3,4,5]<|.l 6 (List.range M.length)<|.nil) ?_;simp[ad];refine n9 s i _ _ (iM _ ae) (ag _) ?_;have q1:=λx=>pS x (iM (M:=M) (k:=k) ⟨3,[.agg [.val (.string s),.val (.int .i64 i),.ju gZ (.ptr M.length 0 0)]],false⟩ ae);simp[bQ];refine aa.awH (.qs [0,1,2,3,4,5,6,7,8,9,10]<|.nil) ?_;simp[q1];exact⟨by omega,al⟩
    ·have af:¬(i:Int)=a:=by omega
     have aw:=h3 (by omega) (by omega);rw[hE]at aw;simp[af];refine aa.awH (.qs [0,1,2,3,4,5,6,7,8,9,10]<|.nil) ?_;simp[ad];exact⟨by omega,aw⟩
end Go.Proofs

