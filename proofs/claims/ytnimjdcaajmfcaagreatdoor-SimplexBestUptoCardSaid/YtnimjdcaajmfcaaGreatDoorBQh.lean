/- A text of the prover's own. -/
import Derived.Test.YtnimjdcaajmfcaaGreatDoorBQe
import Derived.Test.YtnimjdcaajmfcaaGreatDoorBNa
open Nat renaming le_trans->atj
open Go.Proofs.Tryz renaming prog->awW,func155->axn,func157->axo
open Rat renaming divInt->auY
set_option maxRecDepth 10000
namespace Go.Proofs
open Go.Sv Go Go.Pl
def cI(q:Rat):SV:=.agg [.val (.bool (decide (q.num<0))),.ro ((bO 10000 q.num.natAbs).map i64),.val (.bool false),.ro ((bO 10000 q.den).map i64)]
@[simp] theorem afC(x:Rat):(cI x).gJ=4:=rfl
@[simp] theorem Wc(x:Rat):(cI x).aV=false:=rfl
@[simp] theorem UJ(x:Rat):(cI x).isAgg=true:=rfl
@[simp] theorem ZD(x:Rat):(cI x).pure=true:=rfl
@[simp] theorem ahM(n:Nat)(x:Rat):(cI x).lt n=true:=rfl
@[simp] theorem ZA(k:Nat)(x:Rat):(cI x).cj k=false:=rfl
@[simp] theorem agz(M:aD)(x:Rat)(y:SV):Sub M (cI x) y=(y=cI x):=by
 cases y with
 | agg l =>
  match l with
  | []=>simp[cI,cK]
  | [a]=>simp[cI,Sv.Sub,cK]
  | [a,b]=>simp[cI,Sv.Sub,cK]
  | [a,b,c]=>simp[cI,Sv.Sub,cK]
  | a::b::c::d::e::r=>simp[cI,Sv.Sub,cK]
  | [a,b,c,d]=>cases a<;>cases c<;>simp[cI,Sv.Sub,cK]<;>grind
 | _=>simp[cI,Sv.Sub]
@[simp] theorem agI(q:Rat):SV.agg ((cI q).cells.take 2)=eL q.num:=rfl
@[simp] theorem afn(q:Rat):SV.agg (((cI q).cells.drop 2).take 2)=eL (q.den:Int):=by simp[eL];rfl
@[simp] theorem Vb(x:Int):(eL x).cells=[.val (.bool (decide (x<0))),.ro ((bO 10000 x.natAbs).map i64)]:=rfl
theorem wE{k x}(h:fw k x)(hk:k<=100000000000):eG x:=by unfold fw at h;have h1:=wO x.natAbs;have h2:=EF (A:=10) (B:=10000) (by omega) (by omega) x.natAbs;unfold eG;omega
theorem qD{q:Rat}(h:kc q):eG q.num:=wE h.1 (by omega)
theorem mm{q:Rat}(h:kc q):eG q.den:=wE h.2 (by omega)
theorem FV{a b:Int}(ha:fw 10000000000 a)(hb:fw 10000000000 b):eG (a*b):=wE (gV ha hb) (by omega)
theorem KO{x y:Int}(hy:eG y)(h:y≠0):eG ((Int.gcd x y:Nat):Int):=Bp (by have:=Nat.le_of_dvd (by omega) (Nat.gcd_dvd_right x.natAbs y.natAbs);simpa[Int.gcd]using this) hy
theorem pG(n d:Int)(hn:eG n)(hd:eG d)(h0:d≠0):aG awW 98 [eL n,eL d] (cI (auY n d)):=by
 refine aj Tryz.func98 rfl (by simp) (λC hC=>?_);obtain⟨q,hq⟩:∃q,q=auY n d:=⟨_,rfl⟩;rw[<-hq];by_cases ab:d<0
 case' pos =>
  simp[ab];obtain⟨x,hx⟩:∃x,x = -n:=⟨_,rfl⟩;obtain⟨y,hy⟩:∃y,y = -d:=⟨_,rfl⟩;have n1:=wP n;have n2:=wP d;rw[<-hx]at n1;rw[<-hy]at n2;have ai:0<y:=by omega
  have ak:eG x:=by rw[hx];exact mT.2 hn
  have ah:eG y:=by rw[hy];exact mT.2 hd
  obtain⟨e1,e2⟩:=oG (x:=x) ai (hq.trans (by rw[hx,hy,Rat.neg_divInt_neg]));refine asl n1 ?_;simp;refine asl n2 ?_;simp;clear hx hy n1 n2 ab hq hn hd
 case' neg =>
  simp[ab];have ai:0<d:=by omega
  obtain⟨e1,e2⟩:=oG ai hq;obtain⟨x,rfl⟩:∃x,x=n:=⟨_,rfl⟩;obtain⟨y,rfl⟩:∃y,y=d:=⟨_,rfl⟩;have ak:=hn;have ah:=hd;clear ab hq hn hd
 all_goals
  refine asl (Oz x y ak ah) ?_;have an:=KO (x:=x) ah (by omega);have ax:(0:Int)<(Int.gcd x y:Nat):=by have:=Int.gcd_pos_of_ne_zero_right x (b:=y) (by omega);omega
  generalize ((Int.gcd x y:Nat):Int)=g at *;have ao:=xC x g ak an;have ap:=xC y g ah an;rw[e1]at ao;rw[e2]at ap;simp;refine asl ao ?_;simp;refine asl ap ?_;simp[cI,Sv.Sub,cK]
theorem Np(q:Rat):aG awW 14 [cI q] (.val (.int .i64 q.num.sign)):=by refine aj Tryz.func14 rfl (by simp) (λC hC=>?_);simp;refine asl (NN _) ?_;simp
theorem MX(M:aD)(x:Int):Sub M (.agg [.val (.bool (decide (x<0))),.ro ((bO 10000 x.natAbs).map i64),.val (.bool false),.ro ((bO 10000 1).map i64)]) (cI (x:Rat)):=by simp[cI,Sv.Sub,cK];rfl
theorem OC(n:Int)(h1 : -9223372036854775807<=n)(h2:n<=9223372036854775807):aG awW 46 [.val (.int .i64 n)] (cI (n:Rat)):=by refine aj Tryz.func46 rfl (by simp) (λC hC=>?_);simp;refine asl (jy n h1 h2) ?_;simp;refine asl (jy 1 (by omega) (by omega)) ?_;simp;exact MX _ n
theorem Py{x:Nat}:(bO 10000 x).length=1∧dg (bO 10000 x) 0=1↔x=1:=by
 constructor
 ·rintro⟨h1,h2⟩;have hv:=ct (B:=10000) (by omega) x
  match hd:bO 10000 x,h1 with
  | [d],_ =>
   rw[hd]at hv h2;simp[dg]at h2;simp[val,h2]at hv;omega
 ·rintro rfl;decide
theorem vZ(q:Rat):aG awW 57 [cI q] (.val (.bool (decide (q.den=1)))):=by
 refine aj Tryz.func57 rfl (by simp) (λC hC=>?_);have key:=Py (x:=q.den);simp only[cI];generalize bO 10000 q.den=L at *;obtain⟨b,hb⟩:∃b,b=decide (q.den=1):=⟨_,rfl⟩;rw[<-hb];by_cases h:L.length=1
 ·have h':(L.length:Int)=1:=by omega
  have e:=dM (xs:=L) (i:=0) (by omega);by_cases h2:dg L 0=1
  ·have:b=true:=by simp[hb];exact key.1 ⟨h,h2⟩
   simp[e,h2,this,h]
  ·have:b=false:=by simp[hb];exact λhh=>h2 (key.2 hh).2
   have al:¬((dg L 0:Nat):Int)=1:=by omega
   simp[e,al,this,h]
 ·have h':¬(L.length:Int)=1:=by omega
  have:b=false:=by simp[hb];exact λhh=>h (key.2 hh).1
  simp[h',this]
theorem Pa(q:Rat):aG awW 48 [cI q] (cI (-q)):=by refine aj Tryz.func48 rfl (by simp) (λC hC=>?_);simp;refine aa.asj (.qs [0,1,3,4]<|.l 2 []<|.qs [5]<|.l 6 [1]<|.nil) ?_;simp;refine asl (wP _) ?_;simp[cI,Sv.Sub,cK]
theorem PF(x y:Rat)(hx:kc x)(hy:kc y):aG awW 83 [cI x,cI y] (.val (.int .i64 (if x<y then -1 else if y<x then 1 else 0))):=by refine aj Tryz.func83 rfl (by simp) (λC hC=>?_);have hc:=Pu (x.num*y.den) (y.num*x.den) (atj (FV hx.1 hy.2) (by omega)) (atj (FV hy.1 hx.2) (by omega));simp only[<-Rat.lt_iff]at hc;simp;refine asl (jJ _ _ (qD hx) (mm hy)) ?_;simp;refine asl (jJ _ _ (qD hy) (mm hx)) ?_;simp;refine asl hc ?_;simp
theorem Zv(x y:Rat):(x.den:Int)*y.den≠0:=Int.mul_ne_zero (by have:=x.den_nz;omega) (by have:=y.den_nz;omega)
theorem mi(x y:Rat)(hx:kc x)(hy:kc y):aG awW 68 [cI x,cI y] (cI (x+y)):=by refine aj Tryz.func68 rfl (by simp) (λC hC=>?_);simp;refine asl (jJ _ _ (qD hx) (mm hy)) ?_;simp;refine asl (jJ _ _ (qD hy) (mm hx)) ?_;simp;refine aa.asj (.qs [0,1,3,4,5,6]<|.l 2 []<|.l 7 []<|.l 8 []<|.l 9 [2]<|.nil) ?_;simp;refine asl (wV _ _ (FV hx.1 hy.2) (FV hy.1 hx.2)) ?_;simp;refine asl (jJ _ _ (mm hx) (mm hy)) ?_;simp;refine asl (pG _ _ (wE (yX (gV hx.1 hy.2) (gV hy.1 hx.2)) (by omega)) (FV hx.2 hy.2) (Zv x y)) ?_;simp[<-yT]
theorem PH(x y:Rat)(hx:kc x)(hy:kc y):aG awW 146 [cI x,cI y] (cI (x - y)):=by refine aj Tryz.func146 rfl (by simp) (λC hC=>?_);simp;refine asl (Pa y) ?_;simp;refine asl (mi x (-y) hx (fh hy)) ?_;simp[Rat.sub_eq_add_neg]
theorem mv(x y:Rat)(hx:kc x)(hy:kc y):aG awW 47 [cI x,cI y] (cI (x*y)):=by refine aj Tryz.func47 rfl (by simp) (λC hC=>?_);simp;refine aa.asj (.qs [0,1,2,3,5,6,7,8]<|.l 4 []<|.l 9 []<|.l 10 []<|.l 11 [2]<|.nil) ?_;simp;refine asl (jJ _ _ (qD hx) (qD hy)) ?_;simp;refine asl (jJ _ _ (mm hx) (mm hy)) ?_;simp;refine asl (pG _ _ (FV hx.1 hy.1) (FV hx.2 hy.2) (Zv x y)) ?_;simp[<-xW]
theorem GX(l:List SV):(strOf l).size=l.length:=by show(strOf l).data.size=_;unfold strOf strOfNums;simp
theorem ES{x:Int}(hx:fit x):(ID x).size<=20000000000000:=by
 have hw:wid 10 x.natAbs<=10000000000000:=atj (wO _) (by unfold fit at hx;omega);unfold wid at hw;unfold ID Cp;rw[GX];split
 ·simp
 ·split<;>simp<;>omega
theorem yF:({ data:=#[47] }:ByteArray).size=1:=rfl
def m8(q:Rat):ByteArray:=if q.den=1 then ID q.num else ID q.num++⟨#[47]⟩++ID q.den
theorem sF(q:Rat)(hq:kc q):aG awW 17 [aU q] (.val (.string (m8 q))):=by
 refine aj Tryz.func17 rfl (by simp) (λC hC=>?_);simp;refine asl (gY q) ?_;by_cases h:q.den=1
 ·simp[h];refine asl (Cu _ (eJ hq)) ?_;simp[m8,h]
 ·simp[h];refine aa.asj (.qs [0,1,4]<|.l 2 []<|.qs [3]<|.l 5 []<|.l 6 []<|.qs [7,8]<|.nil) ?_;simp;refine asl (Cu _ (eJ hq)) ?_;simp;have t1:=ES (eJ hq);have t2:=ES (iK hq);refine⟨by rw[yF];omega,?_⟩;refine asl (kE q hq) ?_;simp;refine asl (Cu _ (iK hq)) ?_;simp[m8,h];rw[yF];omega
end Go.Proofs
namespace Go.Pl
end Go.Pl
namespace Go.Proofs
open Go.Sv Go Go.Pl
attribute [simp] wD
theorem QN{k:Nat}{x y:Int}(h:x.natAbs<=y.natAbs)(hy:fw k y):fw k x:=by unfold fw at *;exact atj (cq (by omega) h) hy
end Go.Proofs
namespace Go.Pl
def bld:List Int->Rat->Rat
 | [],x=>x
 | p::l,x=>(p:Rat)+(bld l x)⁻¹
def prd(q:Rat):Nat:=q.num.natAbs*q.den
end Go.Pl
namespace Go.Proofs
open Go.Sv Go Go.Pl
structure BI(k:Nat)(v:Rat)(P0:Nat)(parts:List Int)(low high:Rat)(n:Nat):Prop where
 l0:0<low
 lh:low<=high
 dn:low.den+high.den<=n
 kl:qw k low
 kh:qw k high
 kp:∀p∈parts,fw k p
 bv:bld parts (btw n low high)=v
 bk:∀i,i<=parts.length->qw k (bld (parts.drop i) (btw n low high))∧0<bld (parts.drop i) (btw n low high)
 wt:2^(parts.length - 1)*(prd low*prd high)<=P0
 sj:1<=parts.length->1<low
def bv(b:Bool):SV:=.val (.bool b)
theorem DS:aU 0=.agg [.val (.bool false),.ro [],.val (.bool false),.ro []]:=rfl
theorem HZ{q:Rat}:q.num<0↔q<0:=by have:=Rat.num_nonneg (q:=q);rw[<-Rat.not_le,<-this];omega
def mD:SV:=.agg [.val (.bool false),.ro [],.val (.bool false),.ro []]
@[simp] theorem Xz:mD.gJ=4:=rfl
@[simp] theorem Tn:mD.aV=false:=rfl
@[simp] theorem Un:mD.isAgg=true:=rfl
@[simp] theorem U1(k:Nat):mD.cj k=false:=rfl
end Go.Proofs
set_option maxRecDepth 10000
namespace Go.Pl
open Go Go.Sv
def bK(s:ByteArray)(i c:Nat):Prop:=i<s.size∧jS s i=c
instance (s:ByteArray) (i c:Nat):Decidable (bK s i c):=inferInstanceAs (Decidable (_∧_))
def jc(s:ByteArray)(n:Nat):Int:=if minus s then -(n:Int) else n
def ch(s:ByteArray)(e:Nat):Nat:=if bK s (e+1) 45∨bK s (e+1) 43 then e+2 else e+1
def da(s:ByteArray)(num places e:Nat):Rat × Nat × Nat :=
 if bK s e 101 then
  if ch s e+300<aJ s (ch s e) then(0,2,ch s e+300)
  else if aJ s (ch s e)=ch s e∨aJ s (ch s e)<s.size then(0,1,aJ s (ch s e))
  else if 60<nv s (ch s e) (s.size - ch s e) then(0,2,ch s e)
  else if bK s (e+1) 45 then(auY (jc s num) ((10^(places+nv s (ch s e) (s.size - ch s e)):Nat):Int),0,0)
  else(auY (jc s (num*10^nv s (ch s e) (s.size - ch s e))) ((10^places:Nat):Int),0,0)
 else if e<s.size then(0,1,e)
 else(auY (jc s num) ((10^places:Nat):Int),0,0)
def fy(m:Nat)(s:ByteArray):Rat × Nat × Nat :=
 if au s+m<aJ s (au s) then(0,2,au s+m)
 else if aJ s (au s)=au s then(0,1,au s)
 else if bK s (aJ s (au s)) 47 then
  if aJ s (au s)+1+m<aJ s (aJ s (au s)+1) then(0,2,aJ s (au s)+1+m)
  else if aJ s (aJ s (au s)+1)=aJ s (au s)+1∨aJ s (aJ s (au s)+1)<s.size then(0,1,aJ s (aJ s (au s)+1))
  else if nv s (aJ s (au s)+1) (s.size - (aJ s (au s)+1))=0 then(0,3,aJ s (au s)+1)
  else(auY (jc s (nv s (au s) (aJ s (au s) - au s))) (nv s (aJ s (au s)+1) (s.size - (aJ s (au s)+1)):Int),0,0)
 else if bK s (aJ s (au s)) 46 then
  if aJ s (au s)+1+m<aJ s (aJ s (au s)+1) then(0,2,aJ s (au s)+1+m)
  else if aJ s (aJ s (au s)+1)=aJ s (au s)+1 then(0,1,aJ s (au s)+1)
  else da s (nv s (au s) (aJ s (au s) - au s)*10^(aJ s (aJ s (au s)+1) - (aJ s (au s)+1))+nv s (aJ s (au s)+1) (aJ s (aJ s (au s)+1) - (aJ s (au s)+1)))
   (aJ s (aJ s (au s)+1) - (aJ s (au s)+1)) (aJ s (aJ s (au s)+1))
 else da s (nv s (au s) (aJ s (au s) - au s)) 0 (aJ s (au s))
end Go.Pl
namespace Go.Proofs
open Go.Sv Go Go.Pl
def bH(s:ByteArray)(a:Nat)(x:SV):Option cz:=some ⟨3,[.agg [.val (.string s),.val (.int .i64 a),x]],false⟩
theorem jh{s:ByteArray}{a c:Nat}:((eH s a).toNat:Int)=c↔jS s a=c:=by unfold jS;omega
theorem bI{C:Ctx}{M:aD}{k:Nat}{W:Option (List Nat)}{K:aD->List Nat->SV->Prop}(s:ByteArray)(a c:Nat)(hk:aA M k=bH s a (.val .nilIface))(hs:s.size<=4611686018427387904)(hc:c<256)
  (hW:∀ks,W=some ks->∀i e,aA M i=some e->i∈ks)
  (h1:bK s a c->K (aX M k (bH s (a+1) (.val .nilIface))) [] (.val (.bool true))) (h2:¬bK s a c->K M [] (.val (.bool false))):dN awW C 155 [.ptr k 0 0,.val (.int .u8 c)] M W K:=by
 refine dV axn rfl (by simp) [] (by simp) (λks h=>⟨rfl,hW ks h⟩) (λC' hC=>?_);unfold bH at hk;simp;refine aa.asj (.qs [0,1,2,3,4,5,6,7,8,9,10,11,12,13,14,15,16,17,18,19,20,21,22,23,24,25,26,27,28,29]<|.nil) ?_;by_cases aP:a<s.size
 ·have ac:¬s.size<=a:=by omega
  by_cases he:jS s a=c
  ·have af:=jh.2 he;have:=h1 ⟨aP,he⟩;unfold bH at this;simp(disch:=omega)[hk,aP,ac,af,aK];exact this
  ·have af:¬((eH s a).toNat:Int)=c:=λh=>he (jh.1 h);have:=h2 λh=>he h.2;simp(disch:=omega)[hk,aP,ac,af];exact this
 ·have ac:s.size<=a:=by omega
  have:=h2 λh=>aP h.1;simp(disch:=omega)[hk,ac];exact this
theorem x8{C:Ctx}{M:aD}{k k2:Nat}{W:Option (List Nat)}{K:aD->List Nat->SV->Prop}(s:ByteArray)(a c:Nat)(hk:aA M k=bH s a (.iT gE (.ptr k2 0 0)))
  (hW:∀ks,W=some ks->∀i e,aA M i=some e->i∈ks) (h2:K M [] (.val (.bool false))):dN awW C 155 [.ptr k 0 0,.val (.int .u8 c)] M W K:=by
 refine dV axn rfl (by simp) [] (by simp) (λks h=>⟨rfl,hW ks h⟩) (λC' hC=>?_);unfold bH at hk;simp;refine aa.asj (.qs [0,1,2,3,4,5,6,7,8,9,10,11,12,13,14,15,16,17,18,19,20,21,22,23,24,25,26,27,28,29]<|.nil) ?_;simp[hk,h2]
theorem zm{C:Ctx}{M:aD}{k k2:Nat}{W:Option (List Nat)}{K:aD->List Nat->SV->Prop}(s:ByteArray)(a:Nat)(e:SV)(p:Int)(hk:aA M k=bH s a (.iT gE (.ptr k2 0 0)))
  (hW:∀ks,W=some ks->∀i e,aA M i=some e->i∈ks) (h2:K M [] (.bP [])):dN awW C 157 [.ptr k 0 0,e,.val (.int .i64 p)] M W K:=by
 refine dV axo rfl (by simp) [] (by simp) (λks h=>⟨rfl,hW ks h⟩) (λC' hC=>?_);unfold bH at hk;simp[hk,h2]
theorem mZ{C:Ctx}{M:aD}{k:Nat}{W:Option (List Nat)}{K:aD->List Nat->SV->Prop}(s:ByteArray)(a g:Nat)(p:Int)(hk:aA M k=bH s a (.val .nilIface))
  (hW:∀ks,W=some ks->∀i e,aA M i=some e->i∈ks)
  (h2:K (aX M k (bH s a (.iT gE (.ptr M.length 0 0)))++[some ⟨2,[.agg [.val (.int .i64 p),.iJ mC g]],false⟩]) [] (.bP [])):dN awW C 157 [.ptr k 0 0,.iJ mC g,.val (.int .i64 p)] M W K:=by
 refine dV axo rfl (by simp) [] (by simp) (λks h=>⟨rfl,hW ks h⟩) (λC' hC=>?_);have q1:=λx=>oa x (show aA M k=some ⟨3,[.agg [.val (.string s),.val (.int .i64 a),.val .nilIface]],false⟩ from hk);have q3:=λx y=>tK x y (show aA M k=some ⟨3,[.agg [.val (.string s),.val (.int .i64 a),.val .nilIface]],false⟩ from hk);unfold bH at hk h2;simp[hk,q1,q3];exact h2
theorem OM{M:aD}{i:Nat}{e:cz}(h:aA M i=some e):i<M.length:=by have:=aT h;exact(List.getElem?_eq_some_iff.1 this).1
theorem MO{n i:Nat}(hn:n<1000000)(h:i<n):i∈nb (List.range n):=by simp[nb,sj];omega
theorem cQ{C:Ctx}{M:aD}{k:Nat}{K:aD->List Nat->SV->Prop}(s:ByteArray)(a:Nat)(hk:aA M k=bH s a (.val .nilIface))(hs:s.size<=4611686018427387904)(ha:a<=s.size)(hM:M.length<1000000)
  (h1:a+300<aJ s a->K (aX M k (bH s (a+300) (.iT gE (.ptr M.length 0 0)))++[some ⟨2,[.agg [.val (.int .i64 ((a+300:Nat):Int)),.iJ mC (rL 2)]],false⟩]) [] (.val (.string ⟨#[]⟩)))
  (h2:aJ s a=a->K (aX M k (bH s a (.iT gE (.ptr M.length 0 0)))++[some ⟨2,[.agg [.val (.int .i64 a),.iJ mC (rL 1)]],false⟩]) [] (.val (.string ⟨#[]⟩)))
  (h3:¬a+300<aJ s a->a<aJ s a->K (aX M k (bH s (aJ s a) (.val .nilIface))) [] (.val (.string (s.extract a (aJ s a))))) :
  dN awW C 156 [.ptr k 0 0] M none K:=by
 refine dV Tryz.func156 rfl (by simp) [] (by simp) (by simp) (λC' hC=>?_);have ae:aA M k=some ⟨3,[.agg [.val (.string s),.val (.int .i64 a),.val .nilIface]],false⟩:=hk;have ag:∀(x:Option cz) ks,some (nb (List.range M.length))=some ks->∀(i:Nat) e,aA (aX M k x) i=some e->i∈ks:=λx ks aq i e he=>by simp only[Option.some.injEq]at aq;rw[<-aq];have:=OM he;rw[s9]at this;exact MO hM this
 simp[ae];refine aa.loop (ι:=Nat) (λi=>⟨93,[(0,.ptr k 0 0),(2,.val (.string ⟨#[]⟩)),(3,.val (.int .i64 a))],aX M k (bH s i (.val .nilIface))⟩)
  (λi=>a<=i∧i<=s.size∧i<=a+300∧∀j,a<=j->j<i->bA s j) (λi=>s.size - i) a ?_ ?_ ?_
 ·exact⟨Nat.le_refl _,ha,by omega,λj h h'=>by omega⟩
 ·simp[aR,bH,mN ae]
 ·rintro i ⟨g1,g2,g3,g4⟩;have ad:aA (aX M k (bH s i (.val .nilIface))) k=some ⟨3,[.agg [.val (.string s),.val (.int .i64 i),.val .nilIface]],false⟩:=ia _ ae;have stop:¬bA s i->aJ s a=i:=λh=>mj g1 g4 h;simp;refine aa.asj (.qs [0,1,2,3,4,5,6,7,8,9,10,11,12,13,14,15,16,17,18,19,20,21,22,23,24,25,26,27,28,29,30,31,32,33,34,35,36,37,38,39,40]<|.nil) ?_;by_cases hd:bA s i
  ·have aP:=hd.1;have ar:(48:Int)<=(eH s i).toNat:=by have:=hd.2.1;unfold jS at this;omega
   have av:((eH s i).toNat:Int)<=57:=by have:=hd.2.2;unfold jS at this;omega
   have all:∀j,a<=j->j<i+1->bA s j:=λj k1 k2=>by
    by_cases e:j=i
    ·subst e;exact hd
    ·exact g4 j k1 (by omega)
   by_cases hb:i=a+300
   ·have am:(i:Int) - a=300:=by omega
    have ay:=CP g1 λj k1 k2=>all j k1 (by omega);have:=h1 (by omega);rw[<-hb]at this;simp(disch:=omega)[ad,aP,ar,av,am,aK];refine aa.asj (.qs [0,1,2,3,4,5]<|.l 6 (List.range M.length)<|.nil) ?_;simp[ad];refine mZ s i _ _ (ia _ ae) (ag _) ?_;simp[bH];exact this
   ·have am:¬(i:Int) - a=300:=by omega
    simp(disch:=omega)[ad,aP,ar,av,am,aK];exact⟨i+1,⟨by omega,by omega,by omega,all⟩,by omega,by simp[aR,bH]⟩
  ·have hE:=stop hd;have fin:(¬i<s.size∨i<s.size∧¬(48:Int)<=(eH s i).toNat)∨i<s.size∧(48:Int)<=(eH s i).toNat∧¬((eH s i).toNat:Int)<=57:=by
    by_cases h1:i<s.size
    ·by_cases h2:(48:Int)<=(eH s i).toNat
     ·refine .inr ⟨h1,h2,λh3=>hd ⟨h1,?_,?_⟩⟩<;>unfold jS<;>omega
     ·exact .inl (.inr ⟨h1,h2⟩)
    ·exact .inl (.inl h1)
   rcases fin with(n1 | ⟨n1,n2⟩) | ⟨n1,n2,n3⟩;all_goals first | simp(disch:=omega)[ad,n1,n2,n3] | simp(disch:=omega)[ad,n1,n2] | simp(disch:=omega)[ad,n1]
   all_goals
    by_cases he:i=a
    ·have al:=h2 (hE.trans he);subst he;simp[];refine aa.asj (.qs [0,1,2,3,4,5]<|.l 6 (List.range M.length)<|.nil) ?_;simp[ad];refine mZ s i _ _ (ia _ ae) (ag _) ?_;have q1:=λx=>oa x (ia (M:=M) (k:=k) ⟨3,[.agg [.val (.string s),.val (.int .i64 i),.iT gE (.ptr M.length 0 0)]],false⟩ ae);simp[bH];refine aa.asj (.qs [0,1,2,3,4,5,6,7,8,9,10]<|.nil) ?_;simp[q1];exact⟨by omega,al⟩
    ·have af:¬(i:Int)=a:=by omega
     have aw:=h3 (by omega) (by omega);rw[hE]at aw;simp[af];refine aa.asj (.qs [0,1,2,3,4,5,6,7,8,9,10]<|.nil) ?_;simp[ad];exact⟨by omega,aw⟩
end Go.Proofs

