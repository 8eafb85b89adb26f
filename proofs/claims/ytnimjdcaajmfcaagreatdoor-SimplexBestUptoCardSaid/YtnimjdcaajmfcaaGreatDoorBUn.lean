/- A text of the prover's own. -/
import Derived.Test.YtnimjdcaajmfcaaGreatDoorBUl
open Option renaming getD_some->ate
open List renaming cons_append->as8,nil_append->at3
open Classical renaming byContradiction->avF
set_option maxRecDepth 10000
namespace Go.Sx
open Go Go.Sv Go.Pl Go.Proofs Go.Tb Go.Ut Go.Mx Go.Li Go.Dt
def bu(b:Rat)(sm:Bool)(lv wv:Int):aD:=[some ⟨4,[aU b],false⟩,some ⟨1,[cX sm],false⟩,some ⟨1,[iv lv],false⟩,some ⟨1,[iv wv],false⟩]
def v9(y b:Rat)(sm:Bool)(lv who:Int):Prop:=sm=false∨y<b∨(y=b∧0<=lv∧0<=who∧who<lv)∨(y=b∧who<0)
end Go.Sx
namespace Go.Proofs
open Go.Sv Go Go.Tb Go.Pl Go.Ut Go.Mx Go.Li Go.Dt Go.Sx
noncomputable def jb:Code:=Tryz.f186.body.getD .skip
def CT(y b:Rat)(sm:Bool)(lv wv who at' c:Int):Prop:=∀C:Ctx,C.fx=[0,1,2,3] ->
  aa Tryz.prog C (bs 2 jb) ⟨48,[(1,iv who),(2,iv at'),(3,.ptr 0 0 0),(4,.ptr 1 0 0),(5,.ptr 2 0 0),(6,.ptr 3 0 0),(7,.ptr 4 0 0),(10,iv c)],bu b sm lv wv++[some ⟨4,[aU y],false⟩]⟩
   (gK Tryz.prog [] [] (rn (bu b sm lv wv) [] (λT v=>((v9 y b sm lv who∧T=bu y true who at')∨(¬v9 y b sm lv who∧T=bu b sm lv wv))∧v=.bP [])))
theorem aa8(y b:Rat)(lv wv who at' c:Int)  : CT y b false lv wv who at' c:=λC hC=>by simp only[jb,Tryz.f186,ate,ai,ah];simp only[bu,as8,at3];refine aa.Cb (aa.mq (tA.go ?_));simp[];refine aa.vK true (by simp) (λ_=>?_) (λq=>by cases q);refine aa.go ?_;simp;exact⟨_,_,⟨.inl ⟨.inl rfl,rfl⟩,rfl⟩,rfl,by simp[fI],by simp,.inr ⟨by simp,by simp[ee]⟩⟩
theorem YQ(y b:Rat)(lv wv who at':Int)(h:y<b):CT y b true lv wv who at' (-1):=λC hC=>by simp only[jb,Tryz.f186,ate,ai,ah];simp only[bu,as8,at3];refine aa.Cb (aa.mq (tA.go ?_));simp[];refine aa.vK true (by simp) (λ_=>?_) (λq=>by cases q);refine aa.go ?_;simp;exact⟨_,_,⟨.inl ⟨.inr (.inl h),rfl⟩,rfl⟩,rfl,by simp[fI],by simp,.inr ⟨by simp,by simp[ee]⟩⟩
theorem YJ(y b:Rat)(lv wv who at':Int)(h:b<y):CT y b true lv wv who at' 1:=λC hC=>by
 simp only[jb,Tryz.f186,ate,ai,ah];simp only[bu,as8,at3];refine aa.Cb (aa.mq (tA.go ?_));simp[];refine aa.vK false (by simp) (λq=>by cases q) (λ_=>?_);refine aa.go ?_;simp;exact⟨_,_,⟨.inr ⟨λh'=>by
  rcases h' with q | q | ⟨q,q1,q2,q3⟩ | ⟨q,q1⟩
  ·exact absurd q (by simp)
  ·grind
  ·grind
  ·grind,rfl⟩,rfl⟩,rfl,by simp[fI],by simp,.inr ⟨by simp,by simp[ee]⟩⟩
end Go.Proofs
namespace Go.Sx
open Go Go.Sv Go.Pl Go.Proofs Go.Tb Go.Ut Go.Mx Go.Li Go.Dt
def gD(s:Tb)(j:Nat)(up:Bool)(q:Nat):Rat:=if up=true then gt (gt s.R q) j else -(gt (gt s.R q) j)
def mV(c:Tc)(s:Tb)(j:Nat)(up:Bool)(q:Nat):Prop:=(0<gD s j up q∧(gt c.high (gt s.basic q)).has=true)∨(gD s j up q<0∧(gt c.low (gt s.basic q)).has=true)
def dQ(c:Tc)(s:Tb)(j:Nat)(up:Bool)(q:Nat):Rat:=if 0<gD s j up q then((gt c.high (gt s.basic q)).at' - gt s.x (gt s.basic q)) / gD s j up q else((gt c.low (gt s.basic q)).at' - gt s.x (gt s.basic q)) / gD s j up q
def wQ(s:Tb)(j:Nat)(up:Bool)(q:Nat):Int:=if 0<gD s j up q then 3 else 2
def fZ(c:Tc)(j:Nat)(up:Bool):Bo:=if up=true then gt c.high j else gt c.low j
def dO(c:Tc)(s:Tb)(j:Nat)(up:Bool):Rat:=if up=true then(fZ c j up).at' - gt s.x j else -((fZ c j up).at' - gt s.x j)
def Iq(c:Tc)(s:Tb)(j:Nat)(up:Bool)(i:Nat)(sm:Bool)(b:Rat)(lv wv:Int):Prop :=
 (sm=false∧lv = -1∧wv=0∧b=0∧(fZ c j up).has=false∧∀q,q<i->¬mV c s j up q) ∨
 (sm=true∧lv = -1∧wv=0∧(fZ c j up).has=true∧b=dO c s j up∧∀q,q<i->mV c s j up q->dO c s j up<=dQ c s j up q) ∨
 (sm=true∧∃r:Nat,r<i∧mV c s j up r∧lv=((gt s.basic r:Nat):Int)∧wv=wQ s j up r∧b=dQ c s j up r∧((fZ c j up).has=true->dQ c s j up r<dO c s j up)∧∀q,q<i->mV c s j up q->dQ c s j up r<=dQ c s j up q∧(dQ c s j up q=dQ c s j up r->gt s.basic r<=gt s.basic q))
section
variable {c:Tc} {s:Tb} {j:Nat} {up:Bool} {i:Nat} {sm:Bool} {b:Rat} {lv wv:Int}
theorem Iq.skip(h:Iq c s j up i sm b lv wv)(hn:¬mV c s j up i):Iq c s j up (i+1) sm b lv wv:=by
 have lt:∀q,q<i+1->mV c s j up q->q<i:=λq hq hc=>by
  by_cases e:q=i
  ·rw[e]at hc;exact absurd hc hn
  ·omega
 rcases h with⟨h1,h2,h3,h4,h5,h6⟩ | ⟨h1,h2,h3,h4,h5,h6⟩ | ⟨h1,r,h2,h3,h4,h5,h6,h7,h8⟩
 ·exact .inl ⟨h1,h2,h3,h4,h5,λq hq hc=>h6 q (lt q hq hc) hc⟩
 ·exact .inr (.inl ⟨h1,h2,h3,h4,h5,λq hq hc=>h6 q (lt q hq hc) hc⟩)
 ·exact .inr (.inr ⟨h1,r,by omega,h3,h4,h5,h6,h7,λq hq hc=>h8 q (lt q hq hc) hc⟩)
theorem Iq.take(h:Iq c s j up i sm b lv wv)(hc:mV c s j up i)(ht:v9 (dQ c s j up i) b sm lv ((gt s.basic i:Nat):Int)):Iq c s j up (i+1) true (dQ c s j up i) ((gt s.basic i:Nat):Int) (wQ s j up i):=by
 refine .inr (.inr ⟨rfl,i,by omega,hc,rfl,rfl,rfl,?_⟩);rcases h with⟨h1,h2,h3,h4,h5,h6⟩ | ⟨h1,h2,h3,h4,h5,h6⟩ | ⟨h1,r,h2,h3,h4,h5,h6,h7,h8⟩
 ·refine⟨λg=>by rw[h5]at g;exact absurd g (by simp),λq hq ab=>?_⟩;by_cases e:q=i
  ·rw[e];exact⟨Rat.le_refl,λ_=>Nat.le_refl _⟩
  ·exact absurd ab (h6 q (by omega))
 ·have lt:dQ c s j up i<dO c s j up:=by
   rcases ht with q | q | ⟨_,q1,_⟩ | ⟨_,q⟩
   ·rw[h1]at q;cases q
   ·rw[<-h5];exact q
   ·omega
   ·omega
  refine⟨λ_=>lt,λq hq ab=>?_⟩;by_cases e:q=i
  ·rw[e];exact⟨Rat.le_refl,λ_=>Nat.le_refl _⟩
  ·have:=h6 q (by omega) ab;exact⟨by grind,λg=>by grind⟩
 ·rcases ht with q | q | ⟨q0,q1,q2,q3⟩ | ⟨_,q⟩
  ·rw[h1]at q;cases q
  ·rw[h6]at q;refine⟨λg=>by have:=h7 g;grind,λq' hq ab=>?_⟩;by_cases e:q'=i
   ·rw[e];exact⟨Rat.le_refl,λ_=>Nat.le_refl _⟩
   ·have:=(h8 q' (by omega) ab).1;exact⟨by grind,λg=>by grind⟩
  ·rw[h6]at q0;refine⟨λg=>by rw[q0];exact h7 g,λq' hq ab=>?_⟩;by_cases e:q'=i
   ·rw[e];exact⟨Rat.le_refl,λ_=>Nat.le_refl _⟩
   ·have:=h8 q' (by omega) ab;rw[q0];exact⟨this.1,λg=>by have:=this.2 g;omega⟩
  ·omega
theorem Iq.no(h:Iq c s j up i sm b lv wv)(hc:mV c s j up i)(ht:¬v9 (dQ c s j up i) b sm lv ((gt s.basic i:Nat):Int)):Iq c s j up (i+1) sm b lv wv:=by
 rcases h with⟨h1,h2,h3,h4,h5,h6⟩ | ⟨h1,h2,h3,h4,h5,h6⟩ | ⟨h1,r,h2,h3,h4,h5,h6,h7,h8⟩
 ·exact absurd (.inl h1) ht
 ·refine .inr (.inl ⟨h1,h2,h3,h4,h5,λq hq ab=>?_⟩);by_cases e:q=i
  ·rw[e,<-h5];apply avF;intro g;exact ht (.inr (.inl (by grind)))
  ·exact h6 q (by omega) ab
 ·refine .inr (.inr ⟨h1,r,by omega,h3,h4,h5,h6,h7,λq hq ab=>?_⟩);by_cases e:q=i
  ·rw[e,<-h6];refine⟨?_,λg=>?_⟩
   ·apply avF;intro g;exact ht (.inr (.inl (by grind)))
   ·apply avF;intro g2;exact ht (.inr (.inr (.inl ⟨g,by omega,by omega,by omega⟩)))
  ·exact h8 q (by omega) ab
end
def yD(up:Bool)(b:Rat):Rat:=if up=true then b else -b
theorem Pq{s:Tb}{j:Nat}{up:Bool}{q:Nat}{b:Rat}:gt (gt s.R q) j*yD up b=gD s j up q*b:=by
 unfold gD yD;cases up
 ·simp only[Bool.false_eq_true,if_false];grind
 ·simp only[if_true]
def Ah(c:Tc)(s:Tb)(j:Nat)(up:Bool)(T:aD)(v:SV):Prop:=∃s',T=tT c s' []∧s'.R.length=c.m ∧
 (
  (v=cX false∧s'=s∧(fZ c j up).has=false∧∀q,q<c.m->¬mV c s j up q) ∨
  (v=cX true∧(fZ c j up).has=true∧(∀q,q<c.m->mV c s j up q->dO c s j up<=dQ c s j up q)∧s'=Km c s j (yD up (dO c s j up)) (if up=true then 3 else 2)) ∨
  (v=cX true∧∃r,r<c.m∧mV c s j up r∧((fZ c j up).has=true->dQ c s j up r<dO c s j up)∧(∀q,q<c.m->mV c s j up q->dQ c s j up r<=dQ c s j up q∧(dQ c s j up q=dQ c s j up r->gt s.basic r<=gt s.basic q))∧s'=yV c s r j (yD up (dQ c s j up r)) (wQ s j up r)))
end Go.Sx

