/- A text of the prover's own. -/
import Derived.Test.YtnimjdcaajmfcaaGreatDoorVUl
open Option renaming getD_some->ayj
open List renaming cons_append->ayb,nil_append->aAf
open Classical renaming byContradiction->aBW
set_option maxRecDepth 10000
namespace Go.Sx
open Go Go.Sv Go.Pl Go.Proofs Go.Tb Go.Ut Go.Mx Go.Li Go.Dt
def bG(b:Rat)(sm:Bool)(lv wv:Int):aC:=[some ⟨4,[aS b],false⟩,some ⟨1,[dr sm],false⟩,some ⟨1,[iv lv],false⟩,some ⟨1,[iv wv],false⟩]
def yp(y b:Rat)(sm:Bool)(lv who:Int):Prop:=sm=false∨y<b∨(y=b∧0<=lv∧0<=who∧who<lv)∨(y=b∧who<0)
end Go.Sx
namespace Go.Proofs
open Go.Sv Go Go.Tb Go.Pl Go.Ut Go.Mx Go.Li Go.Dt Go.Sx
noncomputable def jR:Code:=Tryz.f186.body.getD .skip
def D9(y b:Rat)(sm:Bool)(lv wv who at' c:Int):Prop:=∀C:Ctx,C.fx=[0,1,2,3] ->
  aa Tryz.prog C (bh 2 jR) ⟨48,[(1,iv who),(2,iv at'),(3,.ptr 0 0 0),(4,.ptr 1 0 0),(5,.ptr 2 0 0),(6,.ptr 3 0 0),(7,.ptr 4 0 0),(10,iv c)],bG b sm lv wv++[some ⟨4,[aS y],false⟩]⟩
   (im Tryz.prog [] [] (sY (bG b sm lv wv) [] (λT v=>((yp y b sm lv who∧T=bG y true who at')∨(¬yp y b sm lv who∧T=bG b sm lv wv))∧v=.bM [])))
theorem aea(y b:Rat)(lv wv who at' c:Int)  : D9 y b false lv wv who at' c:=λC hC=>by simp only[jR,Tryz.f186,ayj,ah,ab];simp only[bG,ayb,aAf];refine aa.El (aa.mZ (u6.go ?_));simp[];refine aa.x6 true (by simp) (λ_=>?_) (λq=>by cases q);refine aa.go ?_;simp;exact⟨_,_,⟨.inl ⟨.inl rfl,rfl⟩,rfl⟩,rfl,by simp[fj],by simp,.inr ⟨by simp,by simp[eA]⟩⟩
theorem afQ(y b:Rat)(lv wv who at':Int)(h:y<b):D9 y b true lv wv who at' (-1):=λC hC=>by simp only[jR,Tryz.f186,ayj,ah,ab];simp only[bG,ayb,aAf];refine aa.El (aa.mZ (u6.go ?_));simp[];refine aa.x6 true (by simp) (λ_=>?_) (λq=>by cases q);refine aa.go ?_;simp;exact⟨_,_,⟨.inl ⟨.inr (.inl h),rfl⟩,rfl⟩,rfl,by simp[fj],by simp,.inr ⟨by simp,by simp[eA]⟩⟩
theorem agf(y b:Rat)(lv wv who at':Int)(h:b<y):D9 y b true lv wv who at' 1:=λC hC=>by
 simp only[jR,Tryz.f186,ayj,ah,ab];simp only[bG,ayb,aAf];refine aa.El (aa.mZ (u6.go ?_));simp[];refine aa.x6 false (by simp) (λq=>by cases q) (λ_=>?_);refine aa.go ?_;simp;exact⟨_,_,⟨.inr ⟨λh'=>by
  rcases h' with q | q | ⟨q,q1,q2,q3⟩ | ⟨q,q1⟩
  ·exact absurd q (by simp)
  ·grind
  ·grind
  ·grind,rfl⟩,rfl⟩,rfl,by simp[fj],by simp,.inr ⟨by simp,by simp[eA]⟩⟩
end Go.Proofs
namespace Go.Sx
open Go Go.Sv Go.Pl Go.Proofs Go.Tb Go.Ut Go.Mx Go.Li Go.Dt
def gD(s:Tb)(j:Nat)(up:Bool)(q:Nat):Rat:=if up=true then gt (gt s.R q) j else -(gt (gt s.R q) j)
def oE(c:Tc)(s:Tb)(j:Nat)(up:Bool)(q:Nat):Prop:=(0<gD s j up q∧(gt c.high (gt s.basic q)).has=true)∨(gD s j up q<0∧(gt c.low (gt s.basic q)).has=true)
def dQ(c:Tc)(s:Tb)(j:Nat)(up:Bool)(q:Nat):Rat:=if 0<gD s j up q then((gt c.high (gt s.basic q)).at' - gt s.x (gt s.basic q)) / gD s j up q else((gt c.low (gt s.basic q)).at' - gt s.x (gt s.basic q)) / gD s j up q
def wQ(s:Tb)(j:Nat)(up:Bool)(q:Nat):Int:=if 0<gD s j up q then 3 else 2
def gT(c:Tc)(j:Nat)(up:Bool):Bo:=if up=true then gt c.high j else gt c.low j
def dO(c:Tc)(s:Tb)(j:Nat)(up:Bool):Rat:=if up=true then(gT c j up).at' - gt s.x j else -((gT c j up).at' - gt s.x j)
def JM(c:Tc)(s:Tb)(j:Nat)(up:Bool)(i:Nat)(sm:Bool)(b:Rat)(lv wv:Int):Prop :=
 (sm=false∧lv = -1∧wv=0∧b=0∧(gT c j up).has=false∧∀q,q<i->¬oE c s j up q) ∨
 (sm=true∧lv = -1∧wv=0∧(gT c j up).has=true∧b=dO c s j up∧∀q,q<i->oE c s j up q->dO c s j up<=dQ c s j up q) ∨
 (sm=true∧∃r:Nat,r<i∧oE c s j up r∧lv=((gt s.basic r:Nat):Int)∧wv=wQ s j up r∧b=dQ c s j up r∧((gT c j up).has=true->dQ c s j up r<dO c s j up)∧∀q,q<i->oE c s j up q->dQ c s j up r<=dQ c s j up q∧(dQ c s j up q=dQ c s j up r->gt s.basic r<=gt s.basic q))
section
variable {c:Tc} {s:Tb} {j:Nat} {up:Bool} {i:Nat} {sm:Bool} {b:Rat} {lv wv:Int}
theorem JM.skip(h:JM c s j up i sm b lv wv)(hn:¬oE c s j up i):JM c s j up (i+1) sm b lv wv:=by
 have lt:∀q,q<i+1->oE c s j up q->q<i:=λq hq hc=>by
  by_cases e:q=i
  ·rw[e]at hc;exact absurd hc hn
  ·omega
 rcases h with⟨h1,h2,h3,h4,h5,h6⟩ | ⟨h1,h2,h3,h4,h5,h6⟩ | ⟨h1,r,h2,h3,h4,h5,h6,h7,h8⟩
 ·exact .inl ⟨h1,h2,h3,h4,h5,λq hq hc=>h6 q (lt q hq hc) hc⟩
 ·exact .inr (.inl ⟨h1,h2,h3,h4,h5,λq hq hc=>h6 q (lt q hq hc) hc⟩)
 ·exact .inr (.inr ⟨h1,r,by omega,h3,h4,h5,h6,h7,λq hq hc=>h8 q (lt q hq hc) hc⟩)
theorem JM.take(h:JM c s j up i sm b lv wv)(hc:oE c s j up i)(ht:yp (dQ c s j up i) b sm lv ((gt s.basic i:Nat):Int)):JM c s j up (i+1) true (dQ c s j up i) ((gt s.basic i:Nat):Int) (wQ s j up i):=by
 refine .inr (.inr ⟨rfl,i,by omega,hc,rfl,rfl,rfl,?_⟩);rcases h with⟨h1,h2,h3,h4,h5,h6⟩ | ⟨h1,h2,h3,h4,h5,h6⟩ | ⟨h1,r,h2,h3,h4,h5,h6,h7,h8⟩
 ·refine⟨λg=>by rw[h5]at g;exact absurd g (by simp),λq hq ac=>?_⟩;by_cases e:q=i
  ·rw[e];exact⟨Rat.le_refl,λ_=>Nat.le_refl _⟩
  ·exact absurd ac (h6 q (by omega))
 ·have lt:dQ c s j up i<dO c s j up:=by
   rcases ht with q | q | ⟨_,q1,_⟩ | ⟨_,q⟩
   ·rw[h1]at q;cases q
   ·rw[<-h5];exact q
   ·omega
   ·omega
  refine⟨λ_=>lt,λq hq ac=>?_⟩;by_cases e:q=i
  ·rw[e];exact⟨Rat.le_refl,λ_=>Nat.le_refl _⟩
  ·have:=h6 q (by omega) ac;exact⟨by grind,λg=>by grind⟩
 ·rcases ht with q | q | ⟨q0,q1,q2,q3⟩ | ⟨_,q⟩
  ·rw[h1]at q;cases q
  ·rw[h6]at q;refine⟨λg=>by have:=h7 g;grind,λq' hq ac=>?_⟩;by_cases e:q'=i
   ·rw[e];exact⟨Rat.le_refl,λ_=>Nat.le_refl _⟩
   ·have:=(h8 q' (by omega) ac).1;exact⟨by grind,λg=>by grind⟩
  ·rw[h6]at q0;refine⟨λg=>by rw[q0];exact h7 g,λq' hq ac=>?_⟩;by_cases e:q'=i
   ·rw[e];exact⟨Rat.le_refl,λ_=>Nat.le_refl _⟩
   ·have:=h8 q' (by omega) ac;rw[q0];exact⟨this.1,λg=>by have:=this.2 g;omega⟩
  ·omega
theorem JM.no(h:JM c s j up i sm b lv wv)(hc:oE c s j up i)(ht:¬yp (dQ c s j up i) b sm lv ((gt s.basic i:Nat):Int)):JM c s j up (i+1) sm b lv wv:=by
 rcases h with⟨h1,h2,h3,h4,h5,h6⟩ | ⟨h1,h2,h3,h4,h5,h6⟩ | ⟨h1,r,h2,h3,h4,h5,h6,h7,h8⟩
 ·exact absurd (.inl h1) ht
 ·refine .inr (.inl ⟨h1,h2,h3,h4,h5,λq hq ac=>?_⟩);by_cases e:q=i
  ·rw[e,<-h5];apply aBW;intro g;exact ht (.inr (.inl (by grind)))
  ·exact h6 q (by omega) ac
 ·refine .inr (.inr ⟨h1,r,by omega,h3,h4,h5,h6,h7,λq hq ac=>?_⟩);by_cases e:q=i
  ·rw[e,<-h6];refine⟨?_,λg=>?_⟩
   ·apply aBW;intro g;exact ht (.inr (.inl (by grind)))
   ·apply aBW;intro g2;exact ht (.inr (.inr (.inl ⟨g,by omega,by omega,by omega⟩)))
  ·exact h8 q (by omega) ac
end
def yD(up:Bool)(b:Rat):Rat:=if up=true then b else -b
theorem SF{s:Tb}{j:Nat}{up:Bool}{q:Nat}{b:Rat}:gt (gt s.R q) j*yD up b=gD s j up q*b:=by
 unfold gD yD;cases up
 ·simp only[Bool.false_eq_true,if_false];grind
 ·simp only[if_true]
def CR(c:Tc)(s:Tb)(j:Nat)(up:Bool)(T:aC)(v:SV):Prop:=∃s',T=tT c s' []∧s'.R.length=c.m ∧
 (
  (v=dr false∧s'=s∧(gT c j up).has=false∧∀q,q<c.m->¬oE c s j up q) ∨
  (v=dr true∧(gT c j up).has=true∧(∀q,q<c.m->oE c s j up q->dO c s j up<=dQ c s j up q)∧s'=MZ c s j (yD up (dO c s j up)) (if up=true then 3 else 2)) ∨
  (v=dr true∧∃r,r<c.m∧oE c s j up r∧((gT c j up).has=true->dQ c s j up r<dO c s j up)∧(∀q,q<c.m->oE c s j up q->dQ c s j up r<=dQ c s j up q∧(dQ c s j up q=dQ c s j up r->gt s.basic r<=gt s.basic q))∧s'=Be c s r j (yD up (dQ c s j up r)) (wQ s j up r)))
end Go.Sx

