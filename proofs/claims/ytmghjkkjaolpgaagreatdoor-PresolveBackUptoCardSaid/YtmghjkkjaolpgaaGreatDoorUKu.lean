/- A text of the prover's own. -/
import Derived.Test.YtmghjkkjaolpgaaGreatDoorUKo
import Derived.Test.YtmghjkkjaolpgaaGreatDoorUQo
import Derived.Test.YtmghjkkjaolpgaaGreatDoorUKb
open List renaming range→amP,length_pos_iff→anB,take→aoM
open Rat renaming divInt→aor,num_divInt_den→aou
open ByteArray renaming ext→ao0,data_append→ao1
namespace Go.Li
open Go Go.Sv Go.Pl Go.Proofs Go.Tb Go.Ut
def gS(p:aO)(y:List Rat)(j:Nat):Nat→Rat
 | 0=>0
 | i+1=>gS p y j i+gt y i*aS (gt p.rows i).ab j
def sgR(r:Row)(q:Rat):Bo:=if q<0 then r.low else r.high
def sgC(c:df)(q:Rat):Bo:=if q<0 then c.high else c.low
def sdR(p:aO)(y:List Rat):Nat→Rat
 | 0=>0
 | i+1=>sdR p y i+gt y i*(sgR (gt p.rows i) (gt y i)).at'
def GS(p:aO)(y:List Rat)(j:Nat):Rat:=if(gt p.aa j).whole=true then gS p y j p.rows.length - (gS p y j p.rows.length).floor else gS p y j p.rows.length
def sdC(p:aO)(y:List Rat):Nat→Rat
 | 0=>sdR p y p.rows.length
 | j+1=>sdC p y j - GS p y j*(sgC (gt p.aa j) (GS p y j)).at'
def cF(p:aO)(y:List Rat)(j:Nat):Rat:=gS p y j p.rows.length - GS p y j
def kS(f:Nat→Rat):Nat→List Term
 | 0=>[]
 | j+1=>if f j=0 then kS f j else kS f j++[⟨j,f j⟩]
theorem AH{k:Nat}{q:Rat}(h:qw k q)(hk:1≤k):qw k (q.floor:Rat):=CV (w7 h) hk
/-! terms -/
theorem z8(f:Nat→Rat):∀n,(kS f n).length≤n
 | 0=>Nat.le_refl _
 | n+1=>by
  have:=z8 f n;unfold kS;split
  ·omega
  ·simp;omega
theorem sN(f:Nat→Rat):∀n k,k<(kS f n).length→0≤(gt (kS f n) k).aq∧(gt (kS f n) k).aq<n∧(gt (kS f n) k).num=f (gt (kS f n) k).aq.toNat∧(gt (kS f n) k).num≠0
 | 0,k,h=>by simp[kS]at h
 | n+1,k,h=>by
  unfold kS at h ⊢;split at h
  ·rename_i e;rw[if_pos e];obtain⟨h1,h2,h3,h4⟩:=sN f n k h;exact⟨h1,by omega,h3,h4⟩
  ·rename_i e;rw[if_neg e];simp only[List.length_append,List.length_cons,List.length_nil]at h;by_cases hk:k<(kS f n).length
   ·rw[Hv hk];obtain⟨h1,h2,h3,h4⟩:=sN f n k hk;exact⟨h1,by omega,h3,h4⟩
   ·obtain rfl:k=(kS f n).length:=by omega
    have g:gt (kS f n++[(⟨n,f n⟩:Term)]) (kS f n).length=⟨n,f n⟩:=by
     rw[←bR (by simp)];simp
    rw[g];exact⟨by show(0:Int)≤(n:Int);omega,by show(n:Int)<_;omega,by simp,e⟩
/-! the law -/
end Go.Li
namespace Go.Li
open Go Go.Sv Go.Pl Go.Proofs Go.Tb Go.Ut
def adK(n:Int):Int→List Int→Bool
 | _,[]=>false
 | last,j::l=>decide (j≤last)||decide (n≤j)||adK n j l
def inS(set:List Int)(c:Int):Bool:=set.any fun j=>decide (j=c)
def sgT(p:aO)(t:Term):Bo:=sgC (gt p.aa t.aq.toNat) t.num
def cvV(p:aO)(set:List Int)(t:Term):Rat:=if inS set t.aq=true then t.num else t.num*(sgT p t).at'
def cvS(p:aO)(set:List Int)(ts:List Term):Nat→Rat
 | 0=>0
 | k+1=>cvS p set ts k+cvV p set (gt ts k)
def adU(t:Term):Term:=⟨t.aq,1⟩
def cvO(set:List Int)(ts:List Term):Nat→List Term
 | 0=>[]
 | k+1=>if inS set (gt ts k).aq=true then cvO set ts k++[adU (gt ts k)] else cvO set ts k
end Go.Li
namespace Go.Li
open Go Go.Sv Go.Pl Go.Proofs Go.Tb Go.Ut
def yP(p:aO)(y:List Rat)(i:Nat):List Rat:=(amP p.aa.length).map fun j=>gS p y j i
def crT(p:aO)(y:List Rat)(i k:Nat):List Rat:=(amP p.aa.length).map fun j=>gS p y j i+gt y i*aS ((gt p.rows i).ab.take k) j
@[simp] theorem Zq(p:aO)(y:List Rat)(i:Nat):(yP p y i).length=p.aa.length:=by simp[yP]
@[simp] theorem abm(p:aO)(y:List Rat)(i k:Nat):(crT p y i k).length=p.aa.length:=by simp[crT]
def ccK(p:aO)(y:List Rat)(j:Nat):List Rat:=(amP p.aa.length).map fun i=>if i<j then cF p y i else gS p y i p.rows.length
@[simp] theorem aa9(p:aO)(y:List Rat)(j:Nat):(ccK p y j).length=p.aa.length:=by simp[ccK]
theorem K8(z:Int):aor z 1=(z:Rat):=by
 have:=aou (z:Rat);simpa using this
end Go.Li
namespace Go.Proofs
open Go.Sv Go Go.Tb Go.Pl Go.Ut Go.Li
@[simp] theorem YO(a b c:Nat):L6 (.ptr a b c)=.ptr a b c:=rfl
end Go.Proofs
namespace Go.Li
open Go Go.Sv Go.Pl Go.Proofs Go.Tb Go.Ut
def XG(f g:Nat→Rat)(n j:Nat):List Rat:=(amP n).map fun i=>if i<j then f i else g i
@[simp] theorem WX(f g:Nat→Rat)(n j:Nat):(XG f g n j).length=n:=by simp[XG]
end Go.Li
namespace Go.Proofs
open Go.Sv Go Go.Tb Go.Pl Go.Ut Go.Li
end Go.Proofs
namespace Go.Proofs
open Go.Sv Go Go.Pl
theorem HV{L:List Nat}{i:Nat}(h:i<L.length)(hL:∀d∈L,d<256):jB (sb L) i=dg L i:=N1 h hL
def Gm(L:List Nat):ByteArray:=sb (L.reverse.map (48+·))
theorem AL(d:Nat)(L:List Nat):Gm (d::L)=Gm L++sb [48+d]:=by
 unfold Gm;rw[yK];simp
theorem qz(L:List Nat):(Gm L).size=L.length:=by unfold Gm;simp
theorem uS{d:Nat}(h:d<10):∀i,i<(sb [48+d]).size→bj (sb [48+d]) i:=fun i hi=>by
 have h0:i=0:=by simp at hi;omega
 subst h0;refine⟨hi,?_⟩;rw[HV (by simp) (by simp;omega)];simp[dg,mP];omega
theorem ue:∀{L:List Nat},(∀d∈L,d<10)→∀i,i<(Gm L).size→bj (Gm L) i
 | [],_,i,hi=>by simp[qz]at hi
 | d::L,h,i,hi=>by
  rw[AL]at hi ⊢;exact EJ (ue fun x hx=>h x (by simp[hx])) (uS (h d (by simp))) i hi
theorem y6:∀{L:List Nat},(∀d∈L,d<10)→nv (Gm L) 0 (Gm L).size=val 10 L
 | [],_=>rfl
 | d::L,h=>by
  have hd:=h d (by simp);rw[AL,GR,y6 fun x hx=>h x (by simp[hx])];have:nv (sb [48+d]) 0 (sb [48+d]).size=d:=by
   rw[mq];simp only[List.length_singleton,nv];rw[HV (by simp) (by simp;omega)];simp[dg]
  rw[this,mq];simp[val];omega
end Go.Proofs
namespace Go.Proofs
open Go.Sv Go Go.Pl
theorem tZ(P X:ByteArray)(i:Nat):jB (P++X) (P.size+i)=jB X i:=by
 unfold jB;rw[nX,if_neg (by omega),show P.size+i - P.size=i by omega]
theorem wW{P X:ByteArray}{i:Nat}(h:i<P.size):jB (P++X) i=jB P i:=by
 unfold jB;rw[nX,if_pos h]
theorem zV(P X:ByteArray)(i:Nat):bj (P++X) (P.size+i)↔bj X i:=by
 unfold bj;rw[tZ,eO];exact and_congr ⟨fun h=>by omega,fun h=>by omega⟩ Iff.rfl
theorem nP(P X:ByteArray)(a:Nat):aw (P++X) (P.size+a)=P.size+aw X a:=by
 have h0:=fD X a;refine kI (by omega) (fun i h1 h2=>?_) (fun h=>vq X a ((zV _ _ _).1 h));obtain⟨k,rfl⟩:∃k,i=P.size+k:=⟨i - P.size,by omega⟩;exact(zV _ _ _).2 (cV (a:=a) (by omega) (by omega))
theorem sP(P X:ByteArray)(a:Nat):∀k,nv (P++X) (P.size+a) k=nv X a k
 | 0=>rfl
 | k+1=>by
  simp only[nv];rw[sP P X a k,Nat.add_assoc,tZ]
theorem AB(P X:ByteArray)(i c:Nat):bA (P++X) (P.size+i) c↔bA X i c:=by
 unfold bA;rw[tZ,eO];exact and_congr ⟨fun h=>by omega,fun h=>by omega⟩ Iff.rfl
theorem sJ{D T:ByteArray}(hD:∀i,i<D.size→bj D i)(hT:¬bj T 0):aw (D++T) 0=D.size:=by
 refine kI (by omega) (fun i _ h2=>?_) ?_
 ·refine⟨by rw[eO];omega,?_⟩;rw[wW h2];exact(hD i h2).2
 ·have:=zV D T 0;rw[Nat.add_zero]at this;exact fun h=>hT (this.1 h)
def Vk(P:ByteArray)(b:Bool):Prop:=P=if b=true then sb [45] else sb []
theorem Is{P D T:ByteArray}{b:Bool}(hP:Vk P b)(hD:∀i,i<D.size→bj D i)(h0:0<D.size):ak (P++(D++T))=P.size∧(minus (P++(D++T))↔b=true):=by
 unfold Vk at hP;cases b with
 | true =>
  obtain rfl:P=sb [45]:=hP;have hm:minus (sb [45]++(D++T)):=⟨by rw[eO,mq];simp;omega,by rw[wW (by simp)];rfl⟩;refine⟨?_,⟨fun _=>rfl,fun _=>hm⟩⟩;unfold ak;rw[if_pos hm];rfl
 | false =>
  obtain rfl:P=sb []:=hP;have hm:¬minus (sb []++(D++T)):=fun h=>by
   have h1:=h.2;have e:=tZ (sb []) (D++T) 0;rw[show(sb []).size+0=0 from rfl,h1,wW h0]at e;have:=(hD 0 h0).2;rw[←e]at this;unfold mP at this;omega
  refine⟨?_,⟨fun h=>absurd h hm,fun h=>by cases h⟩⟩;unfold ak;rw[if_neg hm];rfl
theorem sU:¬bj (sb []) 0:=fun h=>by have:=h.1;simp at this
theorem Ez(D:ByteArray):D++sb []=D:=by
 apply ao0;rw[ao1];show D.data++#[]=D.data;simp
theorem FI{P D:ByteArray}{b:Bool}{n m:Nat}(hP:Vk P b)(hD:∀i,i<D.size→bj D i)(hn:nv D 0 D.size=n)(h0:0<D.size)(hm:(P++D).size≤m):eH m (P++D)=(aor (if b=true then -(n:Int) else n) 1,0,0):=by
 have hs:=Is (T:=sb []) hP hD h0;have hd:=sJ (T:=sb []) hD sU;rw[Ez]at hs hd;have hz:(P++D).size=P.size+D.size:=eO _ _;have hd':aw (P++D) P.size=P.size+D.size:=by
  have:=nP P D 0
  rwa [hd]at this
 have hv:nv (P++D) P.size D.size=n:=by
  have:=sP P D 0 D.size
  rwa [hn]at this
 have ni:∀c,¬bA (P++D) (P.size+D.size) c:=fun c h=>by have:=h.1;omega
 unfold eH;rw[hs.1,hd',if_neg (by omega),if_neg (by omega),if_neg (ni 47),if_neg (ni 46),show P.size+D.size - P.size=D.size by omega,hv];unfold cS;rw[if_neg (ni 101),if_neg (by omega)];unfold iO;by_cases hb:b=true
 ·rw[if_pos (hs.2.2 hb),if_pos hb];rfl
 ·rw[if_neg (fun h=>hb (hs.2.1 h)),if_neg hb];rfl
theorem IM{P D E:ByteArray}{b:Bool}{n d m:Nat}(hP:Vk P b)(hD:∀i,i<D.size→bj D i)(hn:nv D 0 D.size=n)(h0:0<D.size)
  (hE:∀i,i<E.size→bj E i) (hd:nv E 0 E.size=d) (h1:0<E.size) (hd0:d≠0) (hm:(P++(D++(sb [47]++E))).size≤m):eH m (P++(D++(sb [47]++E)))=(aor (if b=true then -(n:Int) else n) d,0,0):=by
 have hT:¬bj (sb [47]++E) 0:=fun h=>by
  have h2:=h.2;rw[wW (by simp)]at h2;have e:jB (sb [47]) 0=47:=rfl;rw[e]at h2;unfold mP at h2;omega
 have hs:=Is (T:=sb [47]++E) hP hD h0;have hde:=sJ (T:=sb [47]++E) hD hT;generalize hS:P++(D++(sb [47]++E))=s at *;have hz:s.size=P.size+D.size+1+E.size:=by rw[←hS,eO,eO,eO,mq];simp;omega
 have hd':aw s P.size=P.size+D.size:=by
  have:=nP P (D++(sb [47]++E)) 0
  rwa [hde,hS]at this
 have hv:nv s P.size D.size=n:=by
  have:=sP P (D++(sb [47]++E)) 0 D.size;rw[zt D _ _ (Nat.le_refl _),hn,hS]at this;exact this
 have hi:bA s (P.size+D.size) 47:=by
  rw[←hS];refine(AB _ _ _ _).2 ?_;have:=AB D (sb [47]++E) 0 47;rw[Nat.add_zero]at this;exact this.2 ⟨by rw[eO,mq];simp;omega,by rw[wW (by simp)];rfl⟩
 have hE0:aw E 0=E.size:=by
  have:=sJ (T:=sb []) hE sU
  rwa [Ez]at this
 have hd2:aw s (P.size+D.size+1)=s.size:=by
  have e1:=nP P (D++(sb [47]++E)) (D.size+1);have e2:=nP D (sb [47]++E) 1;have e3:=nP (sb [47]) E 0;rw[show(sb [47]).size+0=1 from rfl,hE0]at e3;rw[e2,e3,hS,mq]at e1;rw[show P.size+D.size+1=P.size+(D.size+1) by omega,e1,hz];simp;omega
 have hv2:nv s (P.size+D.size+1) E.size=d:=by
  have e1:=sP P (D++(sb [47]++E)) (D.size+1) E.size;have e2:=sP D (sb [47]++E) 1 E.size;have e3:=sP (sb [47]) E 0 E.size;rw[show(sb [47]).size+0=1 from rfl,hd]at e3;rw[e2,e3,hS]at e1;rw[show P.size+D.size+1=P.size+(D.size+1) by omega,e1]
 unfold eH;rw[hs.1,hd',if_neg (by omega),if_neg (by omega),if_pos hi,hd2,if_neg (by omega),if_neg (by omega),show s.size - (P.size+D.size+1)=E.size by omega,hv2,if_neg hd0,show P.size+D.size - P.size=D.size by omega,hv];unfold iO;by_cases hb:b=true
 ·rw[if_pos (hs.2.2 hb),if_pos hb]
 ·rw[if_neg (fun h=>hb (hs.2.1 h)),if_neg hb]
theorem FX(x:Int):∃P D,∃b:Bool,DY x=P++D∧Vk P b∧(∀i,i<D.size→bj D i)∧0<D.size∧nv D 0 D.size=x.natAbs∧(if b=true then -(x.natAbs:Int) else(x.natAbs:Int))=x:=by
 have e:DY x=sb (yO x):=rfl;have hl:=cQ (B:=10) (by omega) x.natAbs;have hv:=bX (B:=10) (by omega) x.natAbs;rw[e];unfold yO;by_cases h0:x=0
 ·subst h0;exact⟨sb [],sb [48],false,by rw[if_pos rfl,yK];rfl,rfl,uS (d:=0) (by omega),by simp,rfl,rfl⟩
 ·rw[if_neg h0];have hne:0<(bB 10 x.natAbs).length:=by
   rw[anB];intro hn;rw[bL (by omega)]at hn;omega
  by_cases h1:x<0
  ·exact⟨sb [45],Gm (bB 10 x.natAbs),true,by rw[if_pos h1,←yK];rfl,rfl,ue hl,by rw[qz];exact hne,by rw[y6 hl,hv],by rw[if_pos rfl];omega⟩
  ·exact⟨sb [],Gm (bB 10 x.natAbs),false,by rw[if_neg h1,←yK];rfl,rfl,ue hl,by rw[qz];exact hne,by rw[y6 hl,hv],by rw[if_neg (by simp)];omega⟩
theorem KQ{d:Nat}(h:d≠0):∃D,DY (d:Int)=D∧(∀i,i<D.size→bj D i)∧0<D.size∧nv D 0 D.size=d:=by
 have e:DY (d:Int)=sb (yO d):=rfl;have hl:=cQ (B:=10) (by omega) d;have hv:=bX (B:=10) (by omega) d;have hne:0<(bB 10 d).length:=by
  rw[anB];intro hn;rw[bL (by omega)]at hn;omega
 refine⟨Gm (bB 10 d),?_,ue hl,by rw[qz];exact hne,by rw[y6 hl,hv]⟩;rw[e];unfold yO;rw[if_neg (by omega),if_neg (by omega)];rfl
theorem xJ(a b c:ByteArray):a++b++c=a++(b++c):=by
 apply ao0;simp[ao1]
theorem D4(q:Rat){m:Nat}(hm:(ff q).size≤m):eH m (ff q)=(q,0,0):=by
 obtain⟨P,D,b,e1,e2,e3,e4,e5,e6⟩:=FX q.num;unfold ff at hm ⊢;by_cases h:q.den=1
 ·rw[if_pos h,e1]at hm ⊢;rw[FI e2 e3 e5 e4 hm,e6];have:=aou q;rw[h]at this;rw[show((1:Nat):Int)=1 from rfl]at this;rw[this]
 ·obtain⟨E,f1,f2,f3,f4⟩:=KQ q.den_nz;rw[if_neg h,e1,f1,show(⟨#[47]⟩:ByteArray)=sb [47] from rfl,xJ,xJ]at hm ⊢;rw[IM e2 e3 e5 e4 f2 f4 f3 q.den_nz hm,e6,aou]
end Go.Proofs
namespace Go.Li
open Go Go.Sv Go.Pl Go.Proofs Go.Tb Go.Ut
theorem IQ{x:Int}{k:Nat}(h:fw k x):(DY x).size≤10*k+2:=by
 have e:DY x=sb (yO x):=rfl;rw[e,mq];unfold yO;have h1:=tV x.natAbs;unfold fw at h;have h2:(bB 10 x.natAbs).length≤10*k:=by
  have:(bB 10 x.natAbs).length=wid 10 x.natAbs:=rfl;omega
 split
 ·simp
 ·split<;>simp<;>omega
def s52:ByteArray:=⟨#[53,47,50]⟩
def s17:ByteArray:=⟨#[49,55]⟩
theorem n52:num s52=5 / 2:=by decide +kernel
theorem n17:num s17=17:=by decide +kernel
end Go.Li
namespace Go.Proofs
open Go.Sv Go Go.Tb Go.Pl Go.Ut Go.Li
end Go.Proofs
namespace Go.Li
open Go Go.Sv Go.Pl Go.Proofs Go.Tb Go.Ut
theorem gY(s:ByteArray):ak s≤s.size:=by
 unfold ak;split
 ·rename_i h;have:=h.1;omega
 ·omega
def sd(s:ByteArray):Rat × Nat × Nat:=eH (s.size+1) s
def Oe(s:ByteArray):Bool:=decide ((sd s).2.1=0)
def VM(s:ByteArray):Bo:=if Oe s=true then⟨true,(sd s).1⟩ else⟨false,0⟩
def sds(l:List ByteArray):List Rat:=l.map fun s=>(sd s).1
def DL(l:List ByteArray):Bool:=l.all Oe
def sdX(l:List ByteArray):List SV:=if DL l=true then(sds l).map cC else[]
def JU(c:r6):SV:=.agg ([iv c.kind,.ro (c.x.map cC),.ro (c.y.map cC),.ro (c.yZ.map cC)]++(cC c.value).cells)
@[simp] theorem Zl(c:r6):(JU c).fj=8:=rfl
@[simp] theorem Sx(c:r6):(JU c).aM=false:=rfl
@[simp] theorem RY(c:r6):(JU c).isAgg=true:=rfl
@[simp] theorem Wj(c:r6):(JU c).pure=true:=rfl
@[simp] theorem afE(n:Nat)(c:r6):(JU c).lt n=true:=rfl
@[simp] theorem afu(c:r6):aA (JU c).cells 0=iv c.kind:=rfl
@[simp] theorem afx(c:r6):aA (JU c).cells 1=.ro (c.x.map cC):=rfl
@[simp] theorem afM(c:r6):aA (JU c).cells 2=.ro (c.y.map cC):=rfl
@[simp] theorem agD(c:r6):aA (JU c).cells 3=.ro (c.yZ.map cC):=rfl
@[simp] theorem adk(c:r6):SV.agg (((JU c).cells.drop 4).take 4)=cC c.value:=rfl
def clX(c:qU):SV:=.agg ([iv c.kind,.ro (sdX c.x),.ro (sdX c.y),.ro (sdX c.yZ)]++(qb (VM c.value)).cells)
@[simp] theorem Wz(c:qU):(clX c).pure=true:=rfl
def aik(c:qU):Bool:=DL c.x&&DL c.y&&DL c.yZ&&Oe c.value
@[simp] theorem afF(s:Sp):aA (Fc s).cells 0=.val (.bool s.lo.has):=rfl
@[simp] theorem ad0(s:Sp):aA (Fc s).cells 5=.val (.bool s.hi.has):=rfl
@[simp] theorem afh(s:Sp):SV.agg (aoM 4 (Fc s).cells.tail)=qb s.lo:=rfl
@[simp] theorem agK(s:Sp):SV.agg (aoM 4 (List.drop 6 (Fc s).cells))=qb s.hi:=rfl
end Go.Li
namespace Go.Proofs
open Go.Sv Go Go.Tb Go.Pl Go.Ut Go.Li
end Go.Proofs

