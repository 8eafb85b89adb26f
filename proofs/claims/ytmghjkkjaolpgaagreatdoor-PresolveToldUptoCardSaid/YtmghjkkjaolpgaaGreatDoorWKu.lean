/- A text of the prover's own. -/
import Derived.Test.YtmghjkkjaolpgaaGreatDoorWKo
import Derived.Test.YtmghjkkjaolpgaaGreatDoorWQo
import Derived.Test.YtmghjkkjaolpgaaGreatDoorWKb
namespace Go.Li
open Go Go.Sv Go.Pl Go.Proofs Go.Tb Go.Ut
def gS(p:aV)(y:List Rat)(j:Nat):Nat→Rat
 | 0=>0
 | i+1=>gS p y j i+gt y i*aP (gt p.rows i).ab j
def sgR(r:Row)(q:Rat):Bo:=if q<0 then r.low else r.high
def sgC(c:dL)(q:Rat):Bo:=if q<0 then c.high else c.low
def sdR(p:aV)(y:List Rat):Nat→Rat
 | 0=>0
 | i+1=>sdR p y i+gt y i*(sgR (gt p.rows i) (gt y i)).at'
def Gp(p:aV)(y:List Rat)(j:Nat):Rat:=if(gt p.ae j).whole=true then gS p y j p.rows.length - (gS p y j p.rows.length).floor else gS p y j p.rows.length
def sdC(p:aV)(y:List Rat):Nat→Rat
 | 0=>sdR p y p.rows.length
 | j+1=>sdC p y j - Gp p y j*(sgC (gt p.ae j) (Gp p y j)).at'
def cF(p:aV)(y:List Rat)(j:Nat):Rat:=gS p y j p.rows.length - Gp p y j
def jW(f:Nat→Rat):Nat→List Term
 | 0=>[]
 | j+1=>if f j=0 then jW f j else jW f j++[⟨j,f j⟩]
theorem A6{k:Nat}{q:Rat}(h:qw k q)(hk:1≤k):qw k (q.floor:Rat):=Cj (uy h) hk
/-! terms -/
theorem qt(f:Nat→Rat):∀n,(jW f n).length≤n
 | 0=>Nat.le_refl _
 | n+1=>by
  have:=qt f n;unfold jW;split
  ·omega
  ·simp;omega
theorem ux(f:Nat→Rat):∀n k,k<(jW f n).length→0≤(gt (jW f n) k).aI∧(gt (jW f n) k).aI<n∧(gt (jW f n) k).num=f (gt (jW f n) k).aI.toNat∧(gt (jW f n) k).num≠0
 | 0,k,h=>by simp[jW]at h
 | n+1,k,h=>by
  unfold jW at h ⊢;split at h
  ·rename_i e;rw[if_pos e];obtain⟨h1,h2,h3,h4⟩:=ux f n k h;exact⟨h1,by omega,h3,h4⟩
  ·rename_i e;rw[if_neg e];simp only[List.length_append,List.length_cons,List.length_nil]at h;by_cases hk:k<(jW f n).length
   ·rw[GQ hk];obtain⟨h1,h2,h3,h4⟩:=ux f n k hk;exact⟨h1,by omega,h3,h4⟩
   ·obtain rfl:k=(jW f n).length:=by omega
    have g:gt (jW f n++[(⟨n,f n⟩:Term)]) (jW f n).length=⟨n,f n⟩:=by
     rw[←ee (by simp)];simp
    rw[g];exact⟨by show(0:Int)≤(n:Int);omega,by show(n:Int)<_;omega,by simp,e⟩
/-! the law -/
end Go.Li
namespace Go.Li
open Go Go.Sv Go.Pl Go.Proofs Go.Tb Go.Ut
def acZ(n:Int):Int→List Int→Bool
 | _,[]=>false
 | last,j::l=>decide (j≤last)||decide (n≤j)||acZ n j l
def inS(set:List Int)(c:Int):Bool:=set.any fun j=>decide (j=c)
def sgT(p:aV)(t:Term):Bo:=sgC (gt p.ae t.aI.toNat) t.num
def cvV(p:aV)(set:List Int)(t:Term):Rat:=if inS set t.aI=true then t.num else t.num*(sgT p t).at'
def cvS(p:aV)(set:List Int)(ts:List Term):Nat→Rat
 | 0=>0
 | k+1=>cvS p set ts k+cvV p set (gt ts k)
def acR(t:Term):Term:=⟨t.aI,1⟩
def cvO(set:List Int)(ts:List Term):Nat→List Term
 | 0=>[]
 | k+1=>if inS set (gt ts k).aI=true then cvO set ts k++[acR (gt ts k)] else cvO set ts k
end Go.Li
namespace Go.Li
open Go Go.Sv Go.Pl Go.Proofs Go.Tb Go.Ut
def xK(p:aV)(y:List Rat)(i:Nat):List Rat:=(List.range p.ae.length).map fun j=>gS p y j i
def crT(p:aV)(y:List Rat)(i k:Nat):List Rat:=(List.range p.ae.length).map fun j=>gS p y j i+gt y i*aP ((gt p.rows i).ab.take k) j
@[simp] theorem Yr(p:aV)(y:List Rat)(i:Nat):(xK p y i).length=p.ae.length:=by simp[xK]
@[simp] theorem aa2(p:aV)(y:List Rat)(i k:Nat):(crT p y i k).length=p.ae.length:=by simp[crT]
def ccK(p:aV)(y:List Rat)(j:Nat):List Rat:=(List.range p.ae.length).map fun i=>if i<j then cF p y i else gS p y i p.rows.length
@[simp] theorem Z0(p:aV)(y:List Rat)(j:Nat):(ccK p y j).length=p.ae.length:=by simp[ccK]
theorem Je(z:Int):Rat.divInt z 1=(z:Rat):=by
 have:=Rat.num_divInt_den (z:Rat);simpa using this
end Go.Li
namespace Go.Proofs
open Go.Sv Go Go.Tb Go.Pl Go.Ut Go.Li
@[simp] theorem Yh(a b c:Nat):Lp (.ptr a b c)=.ptr a b c:=rfl
end Go.Proofs
namespace Go.Li
open Go Go.Sv Go.Pl Go.Proofs Go.Tb Go.Ut
def WB(f g:Nat→Rat)(n j:Nat):List Rat:=(List.range n).map fun i=>if i<j then f i else g i
@[simp] theorem SH(f g:Nat→Rat)(n j:Nat):(WB f g n j).length=n:=by simp[WB]
end Go.Li
namespace Go.Proofs
open Go.Sv Go Go.Tb Go.Pl Go.Ut Go.Li
end Go.Proofs
namespace Go.Proofs
open Go.Sv Go Go.Pl
def dtx(L:List Nat):ByteArray:=sb (L.reverse.map (48+·))
theorem WU(L:List Nat):(dtx L).size=L.length:=by unfold dtx;simp
end Go.Proofs
namespace Go.Proofs
open Go.Sv Go Go.Pl
end Go.Proofs
namespace Go.Li
open Go Go.Sv Go.Pl Go.Proofs Go.Tb Go.Ut
def s52:ByteArray:=⟨#[53,47,50]⟩
def s17:ByteArray:=⟨#[49,55]⟩
theorem n52:num s52=5 / 2:=by decide +kernel
theorem n17:num s17=17:=by decide +kernel
end Go.Li
namespace Go.Proofs
open Go.Sv Go Go.Tb Go.Pl Go.Ut Go.Li
end Go.Proofs
namespace Go.Li
open Go Go.Sv Go.Pl Go.Proofs Go.Tb Go.Ut
theorem jO(s:ByteArray):au s≤s.size:=by
 unfold au;split
 ·rename_i h;have:=h.1;omega
 ·omega
def sd(s:ByteArray):Rat × Nat × Nat:=fE (s.size+1) s
def Np(s:ByteArray):Bool:=decide ((sd s).2.1=0)
def Vj(s:ByteArray):Bo:=if Np s=true then⟨true,(sd s).1⟩ else⟨false,0⟩
def sds(l:List ByteArray):List Rat:=l.map fun s=>(sd s).1
def DH(l:List ByteArray):Bool:=l.all Np
def sdX(l:List ByteArray):List SV:=if DH l=true then(sds l).map bL else[]
def I4(c:sF):SV:=.agg ([iv c.kind,.ro (c.x.map bL),.ro (c.y.map bL),.ro (c.yQ.map bL)]++(bL c.value).cells)
@[simp] theorem aaj(c:sF):(I4 c).eW=8:=rfl
@[simp] theorem QE(c:sF):(I4 c).aO=false:=rfl
@[simp] theorem Q0(c:sF):(I4 c).isAgg=true:=rfl
@[simp] theorem SS(c:sF):(I4 c).pure=true:=rfl
@[simp] theorem adz(n:Nat)(c:sF):(I4 c).lt n=true:=rfl
@[simp] theorem ac5(c:sF):aB (I4 c).cells 0=iv c.kind:=rfl
@[simp] theorem acx(c:sF):aB (I4 c).cells 1=.ro (c.x.map bL):=rfl
@[simp] theorem acf(c:sF):aB (I4 c).cells 2=.ro (c.y.map bL):=rfl
@[simp] theorem aet(c:sF):aB (I4 c).cells 3=.ro (c.yQ.map bL):=rfl
@[simp] theorem aeq(c:sF):SV.agg (((I4 c).cells.drop 4).take 4)=bL c.value:=rfl
def clX(c:rA):SV:=.agg ([iv c.kind,.ro (sdX c.x),.ro (sdX c.y),.ro (sdX c.yQ)]++(qb (Vj c.value)).cells)
@[simp] theorem U7(c:rA):(clX c).pure=true:=rfl
def agq(c:rA):Bool:=DH c.x&&DH c.y&&DH c.yQ&&Np c.value
@[simp] theorem adJ(s:Sp):aB (tm s).cells 0=.val (.bool s.lo.has):=rfl
@[simp] theorem aey(s:Sp):aB (tm s).cells 5=.val (.bool s.hi.has):=rfl
@[simp] theorem adE(s:Sp):SV.agg (List.take 4 (tm s).cells.tail)=qb s.lo:=rfl
@[simp] theorem afs(s:Sp):SV.agg (List.take 4 (List.drop 6 (tm s).cells))=qb s.hi:=rfl
end Go.Li
namespace Go.Proofs
open Go.Sv Go Go.Tb Go.Pl Go.Ut Go.Li
end Go.Proofs

