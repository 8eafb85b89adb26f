/- A text of the prover's own. -/
import Derived.Test.YtnimjdcaajmfcaaGreatDoorVKo
open List renaming length_pos_iff->aAm,range->ayq,take->aBA
open ByteArray renaming ext->aCr,data_append->aCs
namespace Go.Proofs
open Go.Sv Go Go.Pl
theorem Qb{L:List Nat}{i:Nat}(h:i<L.length)(hL:∀d∈L,d<256):kJ (sb L) i=dg L i:=PR h hL
def M0(L:List Nat):ByteArray:=sb (L.reverse.map (48+·))
theorem FW(d:Nat)(L:List Nat):M0 (d::L)=M0 L++sb [48+d]:=by unfold M0;rw[xE];simp
theorem uD(L:List Nat):(M0 L).size=L.length:=by unfold M0;simp
theorem zK{d:Nat}(h:d<10):∀i,i<(sb [48+d]).size->bI (sb [48+d]) i:=λi hi=>by
 have h0:i=0:=by simp at hi;omega
 subst h0;refine⟨hi,?_⟩;rw[Qb (by simp) (by simp;omega)];simp[dg,qu];omega
theorem zw:∀{L:List Nat},(∀d∈L,d<10)->∀i,i<(M0 L).size->bI (M0 L) i
 | [],_,i,hi=>by simp[uD]at hi
 | d::L,h,i,hi=>by rw[FW]at hi ⊢;exact J9 (zw λx hx=>h x (by simp[hx])) (zK (h d (by simp))) i hi
theorem DV:∀{L:List Nat},(∀d∈L,d<10)->nv (M0 L) 0 (M0 L).size=val 10 L
 | [],_=>rfl
 | d::L,h=>by
  have hd:=h d (by simp);rw[FW,NL,DV λx hx=>h x (by simp[hx])];have:nv (sb [48+d]) 0 (sb [48+d]).size=d:=by rw[o3];simp only[List.length_singleton,nv];rw[Qb (by simp) (by simp;omega)];simp[dg]
  rw[this,o3];simp[val];omega
end Go.Proofs
namespace Go.Proofs
open Go.Sv Go Go.Pl
theorem yL(P X:ByteArray)(i:Nat):kJ (P++X) (P.size+i)=kJ X i:=by unfold kJ;rw[qY,if_neg (by omega),show P.size+i - P.size=i by omega]
theorem Bg{P X:ByteArray}{i:Nat}(h:i<P.size):kJ (P++X) i=kJ P i:=by unfold kJ;rw[qY,if_pos h]
theorem DA(P X:ByteArray)(i:Nat):bI (P++X) (P.size+i)↔bI X i:=by unfold bI;rw[yL,fp];exact and_congr ⟨λh=>by omega,λh=>by omega⟩ Iff.rfl
theorem rG(P X:ByteArray)(a:Nat):aK (P++X) (P.size+a)=P.size+aK X a:=by have h0:=jo X a;refine nL (by omega) (λi h1 h2=>?_) (λh=>Bf X a ((DA _ _ _).1 h));obtain⟨k,rfl⟩:∃k,i=P.size+k:=⟨i - P.size,by omega⟩;exact(DA _ _ _).2 (dv (a:=a) (by omega) (by omega))
theorem xp(P X:ByteArray)(a:Nat):∀k,nv (P++X) (P.size+a) k=nv X a k
 | 0=>rfl
 | k+1=>by simp only[nv];rw[xp P X a k,Nat.add_assoc,yL]
theorem FY(P X:ByteArray)(i c:Nat):bR (P++X) (P.size+i) c↔bR X i c:=by unfold bR;rw[yL,fp];exact and_congr ⟨λh=>by omega,λh=>by omega⟩ Iff.rfl
theorem wu{D T:ByteArray}(hD:∀i,i<D.size->bI D i)(hT:¬bI T 0):aK (D++T) 0=D.size:=by
 refine nL (by omega) (λi _ h2=>?_) ?_
 ·refine⟨by rw[fp];omega,?_⟩;rw[Bg h2];exact(hD i h2).2
 ·have:=DA D T 0;rw[Nat.add_zero]at this;exact λh=>hT (this.1 h)
def Sgn(P:ByteArray)(b:Bool):Prop:=P=if b=true then sb [45] else sb []
theorem Pg{P D T:ByteArray}{b:Bool}(hP:Sgn P b)(hD:∀i,i<D.size->bI D i)(h0:0<D.size):av (P++(D++T))=P.size∧(minus (P++(D++T))↔b=true):=by
 unfold Sgn at hP;cases b with
 | true =>
  obtain rfl:P=sb [45]:=hP;have hm:minus (sb [45]++(D++T)):=⟨by rw[fp,o3];simp;omega,by rw[Bg (by simp)];rfl⟩;refine⟨?_,⟨λ_=>rfl,λ_=>hm⟩⟩;unfold av;rw[if_pos hm];rfl
 | false =>
  obtain rfl:P=sb []:=hP;have hm:¬minus (sb []++(D++T)):=λh=>by have h1:=h.2;have e:=yL (sb []) (D++T) 0;rw[show(sb []).size+0=0 from rfl,h1,Bg h0]at e;have:=(hD 0 h0).2;rw[<-e]at this;unfold qu at this;omega
  refine⟨?_,⟨λh=>absurd h hm,λh=>by cases h⟩⟩;unfold av;rw[if_neg hm];rfl
theorem yv:¬bI (sb []) 0:=λh=>by have:=h.1;simp at this
theorem KL(D:ByteArray):D++sb []=D:=by apply aCr;rw[aCs];show D.data++#[]=D.data;simp
theorem LG{P D:ByteArray}{b:Bool}{n m:Nat}(hP:Sgn P b)(hD:∀i,i<D.size->bI D i)(hn:nv D 0 D.size=n)(h0:0<D.size)(hm:(P++D).size<=m):gm m (P++D)=(Rat.divInt (if b=true then -(n:Int) else n) 1,0,0):=by
 have hs:=Pg (T:=sb []) hP hD h0;have hd:=wu (T:=sb []) hD yv;rw[KL]at hs hd;have hz:(P++D).size=P.size+D.size:=fp _ _;have ac:aK (P++D) P.size=P.size+D.size:=by
  have:=rG P D 0
  rwa [hd]at this
 have hv:nv (P++D) P.size D.size=n:=by
  have:=xp P D 0 D.size
  rwa [hn]at this
 have ni:∀c,¬bR (P++D) (P.size+D.size) c:=λc h=>by have:=h.1;omega
 unfold gm;rw[hs.1,ac,if_neg (by omega),if_neg (by omega),if_neg (ni 47),if_neg (ni 46),show P.size+D.size - P.size=D.size by omega,hv];unfold dC;rw[if_neg (ni 101),if_neg (by omega)];unfold jZ;by_cases hb:b=true
 ·rw[if_pos (hs.2.2 hb),if_pos hb];rfl
 ·rw[if_neg (λh=>hb (hs.2.1 h)),if_neg hb];rfl
theorem P3{P D E:ByteArray}{b:Bool}{n d m:Nat}(hP:Sgn P b)(hD:∀i,i<D.size->bI D i)(hn:nv D 0 D.size=n)(h0:0<D.size)
  (hE:∀i,i<E.size->bI E i) (hd:nv E 0 E.size=d) (h1:0<E.size) (ad:d≠0) (hm:(P++(D++(sb [47]++E))).size<=m):gm m (P++(D++(sb [47]++E)))=(Rat.divInt (if b=true then -(n:Int) else n) d,0,0):=by
 have hT:¬bI (sb [47]++E) 0:=λh=>by have h2:=h.2;rw[Bg (by simp)]at h2;have e:kJ (sb [47]) 0=47:=rfl;rw[e]at h2;unfold qu at h2;omega
 have hs:=Pg (T:=sb [47]++E) hP hD h0;have ae:=wu (T:=sb [47]++E) hD hT;generalize hS:P++(D++(sb [47]++E))=s at *;have hz:s.size=P.size+D.size+1+E.size:=by rw[<-hS,fp,fp,fp,o3];simp;omega
 have ac:aK s P.size=P.size+D.size:=by
  have:=rG P (D++(sb [47]++E)) 0
  rwa [ae,hS]at this
 have hv:nv s P.size D.size=n:=by have:=xp P (D++(sb [47]++E)) 0 D.size;rw[Ex D _ _ (Nat.le_refl _),hn,hS]at this;exact this
 have hi:bR s (P.size+D.size) 47:=by rw[<-hS];refine(FY _ _ _ _).2 ?_;have:=FY D (sb [47]++E) 0 47;rw[Nat.add_zero]at this;exact this.2 ⟨by rw[fp,o3];simp;omega,by rw[Bg (by simp)];rfl⟩
 have af:aK E 0=E.size:=by
  have:=wu (T:=sb []) hE yv
  rwa [KL]at this
 have ag:aK s (P.size+D.size+1)=s.size:=by have e1:=rG P (D++(sb [47]++E)) (D.size+1);have e2:=rG D (sb [47]++E) 1;have e3:=rG (sb [47]) E 0;rw[show(sb [47]).size+0=1 from rfl,af]at e3;rw[e2,e3,hS,o3]at e1;rw[show P.size+D.size+1=P.size+(D.size+1) by omega,e1,hz];simp;omega
 have ah:nv s (P.size+D.size+1) E.size=d:=by have e1:=xp P (D++(sb [47]++E)) (D.size+1) E.size;have e2:=xp D (sb [47]++E) 1 E.size;have e3:=xp (sb [47]) E 0 E.size;rw[show(sb [47]).size+0=1 from rfl,hd]at e3;rw[e2,e3,hS]at e1;rw[show P.size+D.size+1=P.size+(D.size+1) by omega,e1]
 unfold gm;rw[hs.1,ac,if_neg (by omega),if_neg (by omega),if_pos hi,ag,if_neg (by omega),if_neg (by omega),show s.size - (P.size+D.size+1)=E.size by omega,ah,if_neg ad,show P.size+D.size - P.size=D.size by omega,hv];unfold jZ;by_cases hb:b=true
 ·rw[if_pos (hs.2.2 hb),if_pos hb]
 ·rw[if_neg (λh=>hb (hs.2.1 h)),if_neg hb]
theorem Mz(x:Int):∃P D,∃b:Bool,Fm x=P++D∧Sgn P b∧(∀i,i<D.size->bI D i)∧0<D.size∧nv D 0 D.size=x.natAbs∧(if b=true then -(x.natAbs:Int) else(x.natAbs:Int))=x:=by
 have e:Fm x=sb (BT x):=rfl;have hl:=cX (B:=10) (by omega) x.natAbs;have hv:=cB (B:=10) (by omega) x.natAbs;rw[e];unfold BT;by_cases h0:x=0
 ·subst h0;exact⟨sb [],sb [48],false,by rw[if_pos rfl,xE];rfl,rfl,zK (d:=0) (by omega),by simp,rfl,rfl⟩
 ·rw[if_neg h0];have ab:0<(bO 10 x.natAbs).length:=by
   rw[aAm];intro hn;rw[bW (by omega)]at hn;omega
  by_cases h1:x<0
  ·exact⟨sb [45],M0 (bO 10 x.natAbs),true,by rw[if_pos h1,<-xE];rfl,rfl,zw hl,by rw[uD];exact ab,by rw[DV hl,hv],by rw[if_pos rfl];omega⟩
  ·exact⟨sb [],M0 (bO 10 x.natAbs),false,by rw[if_neg h1,<-xE];rfl,rfl,zw hl,by rw[uD];exact ab,by rw[DV hl,hv],by rw[if_neg (by simp)];omega⟩
theorem Rq{d:Nat}(h:d≠0):∃D,Fm (d:Int)=D∧(∀i,i<D.size->bI D i)∧0<D.size∧nv D 0 D.size=d:=by
 have e:Fm (d:Int)=sb (BT d):=rfl;have hl:=cX (B:=10) (by omega) d;have hv:=cB (B:=10) (by omega) d;have ab:0<(bO 10 d).length:=by rw[aAm];intro hn;rw[bW (by omega)]at hn;omega
 refine⟨M0 (bO 10 d),?_,zw hl,by rw[uD];exact ab,by rw[DV hl,hv]⟩;rw[e];unfold BT;rw[if_neg (by omega),if_neg (by omega)];rfl
theorem C6(a b c:ByteArray):a++b++c=a++(b++c):=by apply aCr;simp[aCs]
theorem Rg(q:Rat){m:Nat}(hm:(mT q).size<=m):gm m (mT q)=(q,0,0):=by
 obtain⟨P,D,b,e1,e2,e3,e4,e5,e6⟩:=Mz q.num;unfold mT at hm ⊢;by_cases h:q.den=1
 ·rw[if_pos h,e1]at hm ⊢;rw[LG e2 e3 e5 e4 hm,e6];have:=Rat.num_divInt_den q;rw[h]at this;rw[show((1:Nat):Int)=1 from rfl]at this;rw[this]
 ·obtain⟨E,f1,f2,f3,f4⟩:=Rq q.den_nz;rw[if_neg h,e1,f1,show(⟨#[47]⟩:ByteArray)=sb [47] from rfl,C6,C6]at hm ⊢;rw[P3 e2 e3 e5 e4 f2 f4 f3 q.den_nz hm,e6,Rat.num_divInt_den]
end Go.Proofs
namespace Go.Li
open Go Go.Sv Go.Pl Go.Proofs Go.Tb Go.Ut
theorem NO{x:Int}{k:Nat}(h:fw k x):(Fm x).size<=10*k+2:=by
 have e:Fm x=sb (BT x):=rfl;rw[e,o3];unfold BT;have h1:=zm x.natAbs;unfold fw at h;have h2:(bO 10 x.natAbs).length<=10*k:=by have:(bO 10 x.natAbs).length=wid 10 x.natAbs:=rfl;omega
 split
 ·simp
 ·split<;>simp<;>omega
def s52:ByteArray:=⟨#[53,47,50]⟩
def s17:ByteArray:=⟨#[49,55]⟩
theorem n52:num s52=5 / 2:=by decide +kernel
theorem n17:num s17=17:=by decide +kernel
end Go.Li
namespace Go.Proofs
open Go.Sv Go Go.Tb Go.Pl Go.Ut Go.Li
end Go.Proofs
namespace Go.Li
open Go Go.Sv Go.Pl Go.Proofs Go.Tb Go.Ut
def gS(p:aB)(y:List Rat)(j:Nat):Nat->Rat
 | 0=>0
 | i+1=>gS p y j i+gt y i*cY (gt p.rows i).aI j
theorem J8{p:aB}{y:List Rat}{j:Nat}(h:j<p.ai.length):∀i,gS p y j i = -(dP (free p) y j i)
 | 0=>by simp only[gS,dP];rw[xj h];simp
 | i+1=>by simp only[gS,dP];rw[J8 h i];have:(free p).rows=p.rows:=rfl;rw[this];grind
def sgR(r:Row)(q:Rat):Bo:=if q<0 then r.low else r.high
def sgC(c:xZ)(q:Rat):Bo:=if q<0 then c.high else c.low
def sdR(p:aB)(y:List Rat):Nat->Rat
 | 0=>0
 | i+1=>sdR p y i+gt y i*(sgR (gt p.rows i) (gt y i)).at'
def Oj(p:aB)(y:List Rat)(j:Nat):Rat:=if(gt p.ai j).whole=true then gS p y j p.rows.length - (gS p y j p.rows.length).floor else gS p y j p.rows.length
def sdC(p:aB)(y:List Rat):Nat->Rat
 | 0=>sdR p y p.rows.length
 | j+1=>sdC p y j - Oj p y j*(sgC (gt p.ai j) (Oj p y j)).at'
def cF(p:aB)(y:List Rat)(j:Nat):Rat:=gS p y j p.rows.length - Oj p y j
def tmF(f:Nat->Rat):Nat->List Term
 | 0=>[]
 | j+1=>if f j=0 then tmF f j else tmF f j++[⟨j,f j⟩]
/-! terms -/
/-! the law -/
end Go.Li
namespace Go.Li
open Go Go.Sv Go.Pl Go.Proofs Go.Tb Go.Ut
def an1(n:Int):Int->List Int->Bool
 | _,[]=>false
 | last,j::l=>decide (j<=last)||decide (n<=j)||an1 n j l
def inS(set:List Int)(c:Int):Bool:=set.any λj=>decide (j=c)
def sgT(p:aB)(t:Term):Bo:=sgC (gt p.ai t.iP.toNat) t.num
def cvV(p:aB)(set:List Int)(t:Term):Rat:=if inS set t.iP=true then t.num else t.num*(sgT p t).at'
def cvS(p:aB)(set:List Int)(ts:List Term):Nat->Rat
 | 0=>0
 | k+1=>cvS p set ts k+cvV p set (gt ts k)
def amu(t:Term):Term:=⟨t.iP,1⟩
def cvO(set:List Int)(ts:List Term):Nat->List Term
 | 0=>[]
 | k+1=>if inS set (gt ts k).iP=true then cvO set ts k++[amu (gt ts k)] else cvO set ts k
end Go.Li
namespace Go.Li
open Go Go.Sv Go.Pl Go.Proofs Go.Tb Go.Ut
def crR(p:aB)(y:List Rat)(i:Nat):List Rat:=(ayq p.ai.length).map λj=>gS p y j i
def crT(p:aB)(y:List Rat)(i k:Nat):List Rat:=(ayq p.ai.length).map λj=>gS p y j i+gt y i*cY ((gt p.rows i).aI.take k) j
@[simp] theorem aka(p:aB)(y:List Rat)(i:Nat):(crR p y i).length=p.ai.length:=by simp[crR]
@[simp] theorem ahV(p:aB)(y:List Rat)(i k:Nat):(crT p y i k).length=p.ai.length:=by simp[crT]
def ccK(p:aB)(y:List Rat)(j:Nat):List Rat:=(ayq p.ai.length).map λi=>if i<j then cF p y i else gS p y i p.rows.length
@[simp] theorem ahi(p:aB)(y:List Rat)(j:Nat):(ccK p y j).length=p.ai.length:=by simp[ccK]
end Go.Li
namespace Go.Proofs
open Go.Sv Go Go.Tb Go.Pl Go.Ut Go.Li
end Go.Proofs
namespace Go.Li
open Go Go.Sv Go.Pl Go.Proofs Go.Tb Go.Ut
def adC(f g:Nat->Rat)(n j:Nat):List Rat:=(ayq n).map λi=>if i<j then f i else g i
@[simp] theorem aeo(f g:Nat->Rat)(n j:Nat):(adC f g n j).length=n:=by simp[adC]
end Go.Li
namespace Go.Proofs
open Go.Sv Go Go.Tb Go.Pl Go.Ut Go.Li
end Go.Proofs
set_option maxRecDepth 10000
namespace Go.Li
open Go Go.Sv Go.Pl Go.Proofs Go.Tb Go.Ut
theorem kI(s:ByteArray):av s<=s.size:=by
 unfold av;split
 ·rename_i h;have:=h.1;omega
 ·omega
def sd(s:ByteArray):Rat × Nat × Nat:=gm (s.size+1) s
def UN(s:ByteArray):Bool:=decide ((sd s).2.1=0)
def afz(s:ByteArray):Bo:=if UN s=true then⟨true,(sd s).1⟩ else⟨false,0⟩
def sds(l:List ByteArray):List Rat:=l.map λs=>(sd s).1
def J0(l:List ByteArray):Bool:=l.all UN
def sdX(l:List ByteArray):List SV:=if J0 l=true then(sds l).map aZ else[]
def zZ(c:kB):SV:=.agg ([iv c.kind,.ro (c.x.map aZ),.ro (c.y.map aZ),.ro (c.kj.map aZ)]++(aZ c.value).cells)
@[simp] theorem ahE(c:kB):(zZ c).ir=8:=rfl
@[simp] theorem YO(c:kB):(zZ c).aW=false:=rfl
@[simp] theorem Yc(c:kB):(zZ c).isAgg=true:=rfl
@[simp] theorem agh(c:kB):(zZ c).pure=true:=rfl
@[simp] theorem amx(n:Nat)(c:kB):(zZ c).lt n=true:=rfl
@[simp] theorem amZ(c:kB):aM (zZ c).cells 0=iv c.kind:=rfl
@[simp] theorem anO(c:kB):aM (zZ c).cells 1=.ro (c.x.map aZ):=rfl
@[simp] theorem ann(c:kB):aM (zZ c).cells 2=.ro (c.y.map aZ):=rfl
@[simp] theorem alX(c:kB):aM (zZ c).cells 3=.ro (c.kj.map aZ):=rfl
@[simp] theorem akF(c:kB):SV.agg (((zZ c).cells.drop 4).take 4)=aZ c.value:=rfl
def clX(c:tI):SV:=.agg ([iv c.kind,.ro (sdX c.x),.ro (sdX c.y),.ro (sdX c.kj)]++(qb (afz c.value)).cells)
@[simp] theorem aef(c:tI):(clX c).pure=true:=rfl
def atb(c:tI):Bool:=J0 c.x&&J0 c.y&&J0 c.kj&&UN c.value
@[simp] theorem alC(s:Sp):aM (BD s).cells 0=.val (.bool s.lo.has):=rfl
@[simp] theorem alM(s:Sp):aM (BD s).cells 5=.val (.bool s.hi.has):=rfl
@[simp] theorem amE(s:Sp):SV.agg (aBA 4 (BD s).cells.tail)=qb s.lo:=rfl
@[simp] theorem ane(s:Sp):SV.agg (aBA 4 (List.drop 6 (BD s).cells))=qb s.hi:=rfl
theorem RI(p:aB)(c:kB):((decide (0<jc p c.kj p.ai.length)&&p.max)||(decide (jc p c.kj p.ai.length<0)&&!p.max))=(decide (jc p c.kj p.ai.length≠0)&&(decide (0<jc p c.kj p.ai.length)==p.max)):=by generalize jc p c.kj p.ai.length=g;cases p.max<;>by_cases h1:0<g<;>by_cases h2:g<0<;>simp[h1,h2]<;>grind
end Go.Li
namespace Go.Proofs
open Go.Sv Go Go.Tb Go.Pl Go.Ut Go.Li
theorem JB(a b:Bo)(r:Rat):aE Tryz.prog 166 [nZ a,nZ b,aZ r] (dr (yz a b r)):=by
 refine aj Tryz.func166 rfl (by simp) (λC hC=>?_);simp;refine awI (Lg r) ?_;simp
 repeat' (apply And.intro<;>intro _)
 all_goals first | (simp[yz, *];done) | (exfalso;grind)
theorem Bu(a b:Bo)(ha:j4 a.at')(hb:j4 b.at'):aE Tryz.prog 184 [nZ a,nZ b] (dr (jN a b)):=by refine aj Tryz.func184 rfl (by simp) (λC hC=>?_);simp;refine⟨λh1=>⟨λh2=>by simp[jN,h1,h2],λh2=>?_⟩,λh1=>by simp[jN,h1]⟩;rw[ka h1,ka h2];refine awI (FO a.at' b.at' ha hb) ?_;simp[jN,h1,h2]
theorem GZ(p:aB)(h:BF p)(hw:cW p):aE Tryz.prog 163 [bX p] (dr (jb p)):=by
 have nc:=h.nc;have nr:=h.nr;refine aj Tryz.func163 rfl (by simp) (λC hC=>?_);simp;refine aa.bB (ι:=Nat) (λj=>⟨49,[(1,.ptr 0 0 0),(3,iv j)],[some ⟨7,[bX p],false⟩]⟩)
  (λj=>j<=p.ai.length∧∀k,k<j->jN (gt p.ai k).low (gt p.ai k).high=false) (λj=>p.ai.length - j) 0 (by simp) ?_ ?_
 ·simp[aP,hC]
 ·rintro j ⟨hj,hb⟩;by_cases aR:j<p.ai.length
  ·have w2:=hw.co j aR;simp(disch:=omega)[aR];repeat refine awG ?_
   refine aa.awH (.qs [0,1,2,3,4,5,6,7,8,9,10,11]<|.l 12 []<|.qs [13]<|.nil) ?_;simp(disch:=omega)[aR,dc];repeat refine awG ?_
   refine awI (Bu (gt p.ai j).low (gt p.ai j).high (aq w2.2.1 (by omega)) (aq w2.2.2 (by omega))) ?_;simp(disch:=omega)[aD];repeat refine awG ?_
   exact⟨λq=>Bl aR q,λq=>⟨j+1,⟨by omega,Zs hb q⟩,by omega,Le.dE (by simp(disch:=omega)[aP,hC])⟩⟩
  ·obtain rfl:j=p.ai.length:=by omega
   simp;refine aa.bB (ι:=Nat) (λi=>⟨49,[(1,.ptr 0 0 0),(5,iv i)],[some ⟨7,[bX p],false⟩]⟩)
    (λi=>i<=p.rows.length∧∀k,k<i->jN (gt p.rows k).low (gt p.rows k).high=false) (λi=>p.rows.length - i) 0 (by simp) ?_ ?_
   ·simp[aP,hC]
   ·rintro i ⟨hi,hr⟩;by_cases aR:i<p.rows.length
    ·have w2:=hw.ro i aR;simp(disch:=omega)[aR];repeat refine awG ?_
     refine aa.awH (.qs [0,1,2,3,4,5,6,7,8,9,10,11]<|.l 12 []<|.qs [13]<|.nil) ?_;simp(disch:=omega)[aR,di];repeat refine awG ?_
     refine awI (Bu (gt p.rows i).low (gt p.rows i).high (aq w2.1 (by omega)) (aq w2.2 (by omega))) ?_;simp(disch:=omega)[aD];repeat refine awG ?_
     exact⟨λq=>yb aR q,λq=>⟨i+1,⟨by omega,Zs hr q⟩,by omega,Le.dE (by simp(disch:=omega)[aP,hC])⟩⟩
    ·obtain rfl:i=p.rows.length:=by omega
     simp[Gm hb hr]
end Go.Proofs

