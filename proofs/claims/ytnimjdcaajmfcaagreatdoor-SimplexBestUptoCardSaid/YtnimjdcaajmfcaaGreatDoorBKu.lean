/- A text of the prover's own. -/
import Derived.Test.YtnimjdcaajmfcaaGreatDoorBKo
open List renaming length_pos_iff->aua,range->ati,take->avk
open ByteArray renaming ext->av0,data_append->av1
open Bool renaming and_eq_true->atl
namespace Go.Proofs
open Go.Sv Go Go.Pl
theorem K7{L:List Nat}{i:Nat}(h:i<L.length)(hL:∀d∈L,d<256):jS (sb L) i=dg L i:=Ta h hL
def Kn(L:List Nat):ByteArray:=sb (L.reverse.map (48+·))
theorem Fa(d:Nat)(L:List Nat):Kn (d::L)=Kn L++sb [48+d]:=by unfold Kn;rw[B8];simp
theorem tC(L:List Nat):(Kn L).size=L.length:=by unfold Kn;simp
theorem xz{d:Nat}(h:d<10):∀i,i<(sb [48+d]).size->bA (sb [48+d]) i:=λi hi=>by
 have h0:i=0:=by simp at hi;omega
 subst h0;refine⟨hi,?_⟩;rw[K7 (by simp) (by simp;omega)];simp[dg,oM];omega
theorem xg:∀{L:List Nat},(∀d∈L,d<10)->∀i,i<(Kn L).size->bA (Kn L) i
 | [],_,i,hi=>by simp[tC]at hi
 | d::L,h,i,hi=>by rw[Fa]at hi ⊢;exact Ht (xg λx hx=>h x (by simp[hx])) (xz (h d (by simp))) i hi
theorem CY:∀{L:List Nat},(∀d∈L,d<10)->nv (Kn L) 0 (Kn L).size=val 10 L
 | [],_=>rfl
 | d::L,h=>by
  have hd:=h d (by simp);rw[Fa,Mi,CY λx hx=>h x (by simp[hx])];have:nv (sb [48+d]) 0 (sb [48+d]).size=d:=by rw[ou];simp only[List.length_singleton,nv];rw[K7 (by simp) (by simp;omega)];simp[dg]
  rw[this,ou];simp[val];omega
end Go.Proofs
set_option maxRecDepth 10000
namespace Go.Proofs
open Go.Sv Go Go.Pl
theorem w6(P X:ByteArray)(i:Nat):jS (P++X) (P.size+i)=jS X i:=by unfold jS;rw[py,if_neg (by omega),show P.size+i - P.size=i by omega]
theorem yg{P X:ByteArray}{i:Nat}(h:i<P.size):jS (P++X) i=jS P i:=by unfold jS;rw[py,if_pos h]
theorem B1(P X:ByteArray)(i:Nat):bA (P++X) (P.size+i)↔bA X i:=by unfold bA;rw[w6,eO];exact and_congr ⟨λh=>by omega,λh=>by omega⟩ Iff.rfl
theorem o8(P X:ByteArray)(a:Nat):aJ (P++X) (P.size+a)=P.size+aJ X a:=by have h0:=iI X a;refine mj (by omega) (λi h1 h2=>?_) (λh=>yJ X a ((B1 _ _ _).1 h));obtain⟨k,rfl⟩:∃k,i=P.size+k:=⟨i - P.size,by omega⟩;exact(B1 _ _ _).2 (di (a:=a) (by omega) (by omega))
theorem uk(P X:ByteArray)(a:Nat):∀k,nv (P++X) (P.size+a) k=nv X a k
 | 0=>rfl
 | k+1=>by simp only[nv];rw[uk P X a k,Nat.add_assoc,w6]
theorem DV(P X:ByteArray)(i c:Nat):bK (P++X) (P.size+i) c↔bK X i c:=by unfold bK;rw[w6,eO];exact and_congr ⟨λh=>by omega,λh=>by omega⟩ Iff.rfl
theorem uS{D T:ByteArray}(hD:∀i,i<D.size->bA D i)(hT:¬bA T 0):aJ (D++T) 0=D.size:=by
 refine mj (by omega) (λi _ h2=>?_) ?_
 ·refine⟨by rw[eO];omega,?_⟩;rw[yg h2];exact(hD i h2).2
 ·have:=B1 D T 0;rw[Nat.add_zero]at this;exact λh=>hT (this.1 h)
def X3(P:ByteArray)(b:Bool):Prop:=P=if b=true then sb [45] else sb []
theorem Nq{P D T:ByteArray}{b:Bool}(hP:X3 P b)(hD:∀i,i<D.size->bA D i)(h0:0<D.size):au (P++(D++T))=P.size∧(minus (P++(D++T))↔b=true):=by
 unfold X3 at hP;cases b with
 | true =>
  obtain rfl:P=sb [45]:=hP;have hm:minus (sb [45]++(D++T)):=⟨by rw[eO,ou];simp;omega,by rw[yg (by simp)];rfl⟩;refine⟨?_,⟨λ_=>rfl,λ_=>hm⟩⟩;unfold au;rw[if_pos hm];rfl
 | false =>
  obtain rfl:P=sb []:=hP;have hm:¬minus (sb []++(D++T)):=λh=>by have h1:=h.2;have e:=w6 (sb []) (D++T) 0;rw[show(sb []).size+0=0 from rfl,h1,yg h0]at e;have:=(hD 0 h0).2;rw[<-e]at this;unfold oM at this;omega
  refine⟨?_,⟨λh=>absurd h hm,λh=>by cases h⟩⟩;unfold au;rw[if_neg hm];rfl
theorem vW:¬bA (sb []) 0:=λh=>by have:=h.1;simp at this
theorem H9(D:ByteArray):D++sb []=D:=by apply av0;rw[av1];show D.data++#[]=D.data;simp
theorem Kb{P D:ByteArray}{b:Bool}{n m:Nat}(hP:X3 P b)(hD:∀i,i<D.size->bA D i)(hn:nv D 0 D.size=n)(h0:0<D.size)(hm:(P++D).size<=m):fy m (P++D)=(Rat.divInt (if b=true then -(n:Int) else n) 1,0,0):=by
 have hs:=Nq (T:=sb []) hP hD h0;have hd:=uS (T:=sb []) hD vW;rw[H9]at hs hd;have hz:(P++D).size=P.size+D.size:=eO _ _;have ad:aJ (P++D) P.size=P.size+D.size:=by
  have:=o8 P D 0
  rwa [hd]at this
 have hv:nv (P++D) P.size D.size=n:=by
  have:=uk P D 0 D.size
  rwa [hn]at this
 have ni:∀c,¬bK (P++D) (P.size+D.size) c:=λc h=>by have:=h.1;omega
 unfold fy;rw[hs.1,ad,if_neg (by omega),if_neg (by omega),if_neg (ni 47),if_neg (ni 46),show P.size+D.size - P.size=D.size by omega,hv];unfold da;rw[if_neg (ni 101),if_neg (by omega)];unfold jc;by_cases hb:b=true
 ·rw[if_pos (hs.2.2 hb),if_pos hb];rfl
 ·rw[if_neg (λh=>hb (hs.2.1 h)),if_neg hb];rfl
theorem Nb{P D E:ByteArray}{b:Bool}{n d m:Nat}(hP:X3 P b)(hD:∀i,i<D.size->bA D i)(hn:nv D 0 D.size=n)(h0:0<D.size)
  (hE:∀i,i<E.size->bA E i) (hd:nv E 0 E.size=d) (h1:0<E.size) (ae:d≠0) (hm:(P++(D++(sb [47]++E))).size<=m):fy m (P++(D++(sb [47]++E)))=(Rat.divInt (if b=true then -(n:Int) else n) d,0,0):=by
 have hT:¬bA (sb [47]++E) 0:=λh=>by have h2:=h.2;rw[yg (by simp)]at h2;have e:jS (sb [47]) 0=47:=rfl;rw[e]at h2;unfold oM at h2;omega
 have hs:=Nq (T:=sb [47]++E) hP hD h0;have af:=uS (T:=sb [47]++E) hD hT;generalize hS:P++(D++(sb [47]++E))=s at *;have hz:s.size=P.size+D.size+1+E.size:=by rw[<-hS,eO,eO,eO,ou];simp;omega
 have ad:aJ s P.size=P.size+D.size:=by
  have:=o8 P (D++(sb [47]++E)) 0
  rwa [af,hS]at this
 have hv:nv s P.size D.size=n:=by have:=uk P (D++(sb [47]++E)) 0 D.size;rw[B7 D _ _ (Nat.le_refl _),hn,hS]at this;exact this
 have hi:bK s (P.size+D.size) 47:=by rw[<-hS];refine(DV _ _ _ _).2 ?_;have:=DV D (sb [47]++E) 0 47;rw[Nat.add_zero]at this;exact this.2 ⟨by rw[eO,ou];simp;omega,by rw[yg (by simp)];rfl⟩
 have ag:aJ E 0=E.size:=by
  have:=uS (T:=sb []) hE vW
  rwa [H9]at this
 have ah:aJ s (P.size+D.size+1)=s.size:=by have e1:=o8 P (D++(sb [47]++E)) (D.size+1);have e2:=o8 D (sb [47]++E) 1;have e3:=o8 (sb [47]) E 0;rw[show(sb [47]).size+0=1 from rfl,ag]at e3;rw[e2,e3,hS,ou]at e1;rw[show P.size+D.size+1=P.size+(D.size+1) by omega,e1,hz];simp;omega
 have ai:nv s (P.size+D.size+1) E.size=d:=by have e1:=uk P (D++(sb [47]++E)) (D.size+1) E.size;have e2:=uk D (sb [47]++E) 1 E.size;have e3:=uk (sb [47]) E 0 E.size;rw[show(sb [47]).size+0=1 from rfl,hd]at e3;rw[e2,e3,hS]at e1;rw[show P.size+D.size+1=P.size+(D.size+1) by omega,e1]
 unfold fy;rw[hs.1,ad,if_neg (by omega),if_neg (by omega),if_pos hi,ah,if_neg (by omega),if_neg (by omega),show s.size - (P.size+D.size+1)=E.size by omega,ai,if_neg ae,show P.size+D.size - P.size=D.size by omega,hv];unfold jc;by_cases hb:b=true
 ·rw[if_pos (hs.2.2 hb),if_pos hb]
 ·rw[if_neg (λh=>hb (hs.2.1 h)),if_neg hb]
theorem Ka(x:Int):∃P D,∃b:Bool,ID x=P++D∧X3 P b∧(∀i,i<D.size->bA D i)∧0<D.size∧nv D 0 D.size=x.natAbs∧(if b=true then -(x.natAbs:Int) else(x.natAbs:Int))=x:=by
 have e:ID x=sb (Cp x):=rfl;have hl:=cV (B:=10) (by omega) x.natAbs;have hv:=ct (B:=10) (by omega) x.natAbs;rw[e];unfold Cp;by_cases h0:x=0
 ·subst h0;exact⟨sb [],sb [48],false,by rw[if_pos rfl,B8];rfl,rfl,xz (d:=0) (by omega),by simp,rfl,rfl⟩
 ·rw[if_neg h0];have ac:0<(bO 10 x.natAbs).length:=by
   rw[aua];intro hn;rw[bX (by omega)]at hn;omega
  by_cases h1:x<0
  ·exact⟨sb [45],Kn (bO 10 x.natAbs),true,by rw[if_pos h1,<-B8];rfl,rfl,xg hl,by rw[tC];exact ac,by rw[CY hl,hv],by rw[if_pos rfl];omega⟩
  ·exact⟨sb [],Kn (bO 10 x.natAbs),false,by rw[if_neg h1,<-B8];rfl,rfl,xg hl,by rw[tC];exact ac,by rw[CY hl,hv],by rw[if_neg (by simp)];omega⟩
theorem ON{d:Nat}(h:d≠0):∃D,ID (d:Int)=D∧(∀i,i<D.size->bA D i)∧0<D.size∧nv D 0 D.size=d:=by
 have e:ID (d:Int)=sb (Cp d):=rfl;have hl:=cV (B:=10) (by omega) d;have hv:=ct (B:=10) (by omega) d;have ac:0<(bO 10 d).length:=by rw[aua];intro hn;rw[bX (by omega)]at hn;omega
 refine⟨Kn (bO 10 d),?_,xg hl,by rw[tC];exact ac,by rw[CY hl,hv]⟩;rw[e];unfold Cp;rw[if_neg (by omega),if_neg (by omega)];rfl
theorem Bj(a b c:ByteArray):a++b++c=a++(b++c):=by apply av0;simp[av1]
theorem Oc(q:Rat){m:Nat}(hm:(m8 q).size<=m):fy m (m8 q)=(q,0,0):=by
 obtain⟨P,D,b,e1,e2,e3,e4,e5,e6⟩:=Ka q.num;unfold m8 at hm ⊢;by_cases h:q.den=1
 ·rw[if_pos h,e1]at hm ⊢;rw[Kb e2 e3 e5 e4 hm,e6];have:=Rat.num_divInt_den q;rw[h]at this;rw[show((1:Nat):Int)=1 from rfl]at this;rw[this]
 ·obtain⟨E,f1,f2,f3,f4⟩:=ON q.den_nz;rw[if_neg h,e1,f1,show(⟨#[47]⟩:ByteArray)=sb [47] from rfl,Bj,Bj]at hm ⊢;rw[Nb e2 e3 e5 e4 f2 f4 f3 q.den_nz hm,e6,Rat.num_divInt_den]
end Go.Proofs
namespace Go.Li
open Go Go.Sv Go.Pl Go.Proofs Go.Tb Go.Ut
theorem L5{x:Int}{k:Nat}(h:fw k x):(ID x).size<=10*k+2:=by
 have e:ID x=sb (Cp x):=rfl;rw[e,ou];unfold Cp;have h1:=wO x.natAbs;unfold fw at h;have h2:(bO 10 x.natAbs).length<=10*k:=by have:(bO 10 x.natAbs).length=wid 10 x.natAbs:=rfl;omega
 split
 ·simp
 ·split<;>simp<;>omega
theorem sound{p:aB}(hv:bh p=0){c:j0}(hc:ri p c=true){x:List Rat}(hx:dK p x false=true) :
  c.kind=3∨(c.kind=1∧(dX p x p.ab.length=c.value∨(decide (dX p x p.ab.length<c.value)=p.max))):=by
 unfold ri at hc;by_cases h1:c.kind=1
 ·rw[if_pos h1]at hc;refine .inr ⟨h1,?_⟩;unfold pP at hc;simp only[atl,decide_eq_true_eq]at hc;obtain⟨-,⟨g1,g2⟩,g3⟩:=hc;have hw:=TL hv c.y hx;rw[g2]at g3;unfold l6 at g1 g3;by_cases hm:p.max=true
  ·rw[if_pos hm]at g1 g3;have:=hw.2 g1;rw[g3]at this;rcases Rat.le_iff_lt_or_eq.1 this with h | h
   ·exact .inr (by rw[hm];simp[h])
   ·exact .inl h
  ·rw[if_neg hm]at g1 g3;have:=hw.1 g1;rw[g3]at this;refine .inr ?_;have ak:p.max=false:=by simpa using hm
   rw[ak];simp[Rat.not_lt.2 this]
 ·rw[if_neg h1]at hc;by_cases h2:c.kind=2
  ·rw[if_pos h2]at hc;exfalso;unfold lQ at hc;simp only[atl]at hc;have g:=hc.2;split at g
   ·rw[FQ hx]at g;cases g
   ·simp only[atl]at g;rw[Uv hv c.y hx]at g;cases g.2
  ·rw[if_neg h2]at hc;by_cases h3:c.kind=3
   ·exact .inl h3
   ·rw[if_neg h3]at hc;cases hc
end Go.Li
namespace Go.Proofs
open Go.Sv Go Go.Tb Go.Pl Go.Ut Go.Li
theorem LD(p:aB)(t:ByteArray)(x:List Rat):aG Tryz.prog 31 [bZ p,iv 3,.val (.string t),.ro (x.map cI)] (cX true):=by refine aj Tryz.func31 rfl (by simp) (λC hC=>?_);simp
end Go.Proofs
namespace Go.Li
open Go Go.Sv Go.Pl Go.Proofs Go.Tb Go.Ut
def gS(p:aB)(y:List Rat)(j:Nat):Nat->Rat
 | 0=>0
 | i+1=>gS p y j i+gt y i*cW (gt p.rows i).aC j
theorem Is{p:aB}{y:List Rat}{j:Nat}(h:j<p.ab.length):∀i,gS p y j i = -(dP (free p) y j i)
 | 0=>by simp only[gS,dP];rw[qM h];simp
 | i+1=>by simp only[gS,dP];rw[Is h i];have:(free p).rows=p.rows:=rfl;rw[this];grind
def Y5(p:aB)(y:List Rat)(j:Nat):Rat:=if(gt p.ab j).whole=true then gS p y j p.rows.length - (gS p y j p.rows.length).floor else gS p y j p.rows.length
def cF(p:aB)(y:List Rat)(j:Nat):Rat:=gS p y j p.rows.length - Y5 p y j
/-! terms -/
/-! the law -/
end Go.Li
namespace Go.Li
open Go Go.Sv Go.Pl Go.Proofs Go.Tb Go.Ut
end Go.Li
namespace Go.Li
open Go Go.Sv Go.Pl Go.Proofs Go.Tb Go.Ut
def crR(p:aB)(y:List Rat)(i:Nat):List Rat:=(ati p.ab.length).map λj=>gS p y j i
def crT(p:aB)(y:List Rat)(i k:Nat):List Rat:=(ati p.ab.length).map λj=>gS p y j i+gt y i*cW ((gt p.rows i).aC.take k) j
@[simp] theorem afg(p:aB)(y:List Rat)(i:Nat):(crR p y i).length=p.ab.length:=by simp[crR]
@[simp] theorem aen(p:aB)(y:List Rat)(i k:Nat):(crT p y i k).length=p.ab.length:=by simp[crT]
def ccK(p:aB)(y:List Rat)(j:Nat):List Rat:=(ati p.ab.length).map λi=>if i<j then cF p y i else gS p y i p.rows.length
@[simp] theorem aeC(p:aB)(y:List Rat)(j:Nat):(ccK p y j).length=p.ab.length:=by simp[ccK]
end Go.Li
namespace Go.Proofs
open Go.Sv Go Go.Tb Go.Pl Go.Ut Go.Li
end Go.Proofs
namespace Go.Li
open Go Go.Sv Go.Pl Go.Proofs Go.Tb Go.Ut
def Xh(f g:Nat->Rat)(n j:Nat):List Rat:=(ati n).map λi=>if i<j then f i else g i
@[simp] theorem XY(f g:Nat->Rat)(n j:Nat):(Xh f g n j).length=n:=by simp[Xh]
end Go.Li
namespace Go.Proofs
open Go.Sv Go Go.Tb Go.Pl Go.Ut Go.Li
end Go.Proofs
set_option maxRecDepth 10000
namespace Go.Li
open Go Go.Sv Go.Pl Go.Proofs Go.Tb Go.Ut
theorem jX(s:ByteArray):au s<=s.size:=by
 unfold au;split
 ·rename_i h;have:=h.1;omega
 ·omega
def sd(s:ByteArray):Rat × Nat × Nat:=fy (s.size+1) s
def W9(s:ByteArray):Bool:=decide ((sd s).2.1=0)
def Zl(s:ByteArray):Bo:=if W9 s=true then⟨true,(sd s).1⟩ else⟨false,0⟩
def sds(l:List ByteArray):List Rat:=l.map λs=>(sd s).1
def Xq(l:List ByteArray):Bool:=l.all W9
def sdX(l:List ByteArray):List SV:=if Xq l=true then(sds l).map cI else[]
def zM(c:j0):SV:=.agg ([iv c.kind,.ro (c.x.map cI),.ro (c.y.map cI),.ro (c.jP.map cI)]++(cI c.value).cells)
@[simp] theorem aeH(c:j0):(zM c).gJ=8:=rfl
@[simp] theorem WV(c:j0):(zM c).aV=false:=rfl
@[simp] theorem Vk(c:j0):(zM c).isAgg=true:=rfl
@[simp] theorem Xw(c:j0):(zM c).pure=true:=rfl
@[simp] theorem ajU(n:Nat)(c:j0):(zM c).lt n=true:=rfl
@[simp] theorem ahV(c:j0):aL (zM c).cells 0=iv c.kind:=rfl
@[simp] theorem ahd(c:j0):aL (zM c).cells 1=.ro (c.x.map cI):=rfl
@[simp] theorem aiJ(c:j0):aL (zM c).cells 2=.ro (c.y.map cI):=rfl
@[simp] theorem aiP(c:j0):aL (zM c).cells 3=.ro (c.jP.map cI):=rfl
@[simp] theorem aij(c:j0):SV.agg (((zM c).cells.drop 4).take 4)=cI c.value:=rfl
def clX(c:tW):SV:=.agg ([iv c.kind,.ro (sdX c.x),.ro (sdX c.y),.ro (sdX c.jP)]++(qb (Zl c.value)).cells)
@[simp] theorem aa5(c:tW):(clX c).pure=true:=rfl
@[simp] theorem akv(s:Sp):aL (zL s).cells 0=.val (.bool s.lo.has):=rfl
@[simp] theorem ahw(s:Sp):aL (zL s).cells 5=.val (.bool s.hi.has):=rfl
@[simp] theorem ah2(s:Sp):SV.agg (avk 4 (zL s).cells.tail)=qb s.lo:=rfl
@[simp] theorem aka(s:Sp):SV.agg (avk 4 (List.drop 6 (zL s).cells))=qb s.hi:=rfl
theorem Ok(p:aB)(c:j0):((decide (0<iE p c.jP p.ab.length)&&p.max)||(decide (iE p c.jP p.ab.length<0)&&!p.max))=(decide (iE p c.jP p.ab.length≠0)&&(decide (0<iE p c.jP p.ab.length)==p.max)):=by generalize iE p c.jP p.ab.length=g;cases p.max<;>by_cases h1:0<g<;>by_cases h2:g<0<;>simp[h1,h2]<;>grind
end Go.Li
namespace Go.Proofs
open Go.Sv Go Go.Tb Go.Pl Go.Ut Go.Li
theorem Hm(a b:Bo)(r:Rat):aG Tryz.prog 166 [nB a,nB b,cI r] (cX (wj a b r)):=by
 refine aj Tryz.func166 rfl (by simp) (λC hC=>?_);simp;refine asl (JY r) ?_;simp
 repeat' (apply And.intro<;>intro _)
 all_goals first | (simp[wj, *];done) | (exfalso;grind)
theorem y7(a b:Bo)(ha:kc a.at')(hb:kc b.at'):aG Tryz.prog 184 [nB a,nB b] (cX (gP a b)):=by refine aj Tryz.func184 rfl (by simp) (λC hC=>?_);simp;refine⟨λh1=>⟨λh2=>by simp[gP,h1,h2],λh2=>?_⟩,λh1=>by simp[gP,h1]⟩;rw[kS h1,kS h2];refine asl (Fm a.at' b.at' ha hb) ?_;simp[gP,h1,h2]
theorem DO(p:aB)(h:As p)(hw:cT p):aG Tryz.prog 163 [bZ p] (cX (gm p)):=by
 have nc:=h.nc;have nr:=h.nr;refine aj Tryz.func163 rfl (by simp) (λC hC=>?_);simp;refine aa.bM (ι:=Nat) (λj=>⟨49,[(1,.ptr 0 0 0),(3,iv j)],[some ⟨7,[bZ p],false⟩]⟩)
  (λj=>j<=p.ab.length∧∀k,k<j->gP (gt p.ab k).low (gt p.ab k).high=false) (λj=>p.ab.length - j) 0 (by simp) ?_ ?_
 ·simp[aR,hC]
 ·rintro j ⟨hj,hb⟩;by_cases aP:j<p.ab.length
  ·have w2:=hw.co j aP;simp(disch:=omega)[aP];repeat refine asi ?_
   refine aa.asj (.qs [0,1,2,3,4,5,6,7,8,9,10,11]<|.l 12 []<|.qs [13]<|.nil) ?_;simp(disch:=omega)[aP,dG];repeat refine asi ?_
   refine asl (y7 (gt p.ab j).low (gt p.ab j).high (ao w2.2.1 (by omega)) (ao w2.2.2 (by omega))) ?_;simp(disch:=omega)[aK];repeat refine asi ?_
   exact⟨λq=>zB aP q,λq=>⟨j+1,⟨by omega,Ro hb q⟩,by omega,Le.fm (by simp(disch:=omega)[aR,hC])⟩⟩
  ·obtain rfl:j=p.ab.length:=by omega
   simp;refine aa.bM (ι:=Nat) (λi=>⟨49,[(1,.ptr 0 0 0),(5,iv i)],[some ⟨7,[bZ p],false⟩]⟩)
    (λi=>i<=p.rows.length∧∀k,k<i->gP (gt p.rows k).low (gt p.rows k).high=false) (λi=>p.rows.length - i) 0 (by simp) ?_ ?_
   ·simp[aR,hC]
   ·rintro i ⟨hi,hr⟩;by_cases aP:i<p.rows.length
    ·have w2:=hw.ro i aP;simp(disch:=omega)[aP];repeat refine asi ?_
     refine aa.asj (.qs [0,1,2,3,4,5,6,7,8,9,10,11]<|.l 12 []<|.qs [13]<|.nil) ?_;simp(disch:=omega)[aP,cS];repeat refine asi ?_
     refine asl (y7 (gt p.rows i).low (gt p.rows i).high (ao w2.1 (by omega)) (ao w2.2 (by omega))) ?_;simp(disch:=omega)[aK];repeat refine asi ?_
     exact⟨λq=>vP aP q,λq=>⟨i+1,⟨by omega,Ro hr q⟩,by omega,Le.fm (by simp(disch:=omega)[aR,hC])⟩⟩
    ·obtain rfl:i=p.rows.length:=by omega
     simp[C5 hb hr]
end Go.Proofs

