/- A text of the prover's own. -/
import Derived.Test.YtnimjdcaajmfcaaGreatDoorBSq
open List renaming range->ati,cons_append->as8,nil_append->at3,map_set->aue,length_set->avs,set_set->avt
open Go.Proofs.Tryz renaming f128->axr,prog->awW
open Option renaming getD_some->ate
open Int renaming sign_eq_zero_iff_zero->avu
open Rat renaming num_eq_zero->avv,div_mul_cancel->avw,zero_mul->avq
set_option maxRecDepth 10000
namespace Go.Sx
open Go Go.Sv Go.Pl Go.Proofs Go.Tb Go.Ut Go.Mx Go.Li Go.Dt
def iP(l:List Rat)(y:Rat)(k:Nat):List Rat:=(ati l.length).map λx=>if x<k then -(gt l x*y) else gt l x
@[simp] theorem yK(l:List Rat)(y:Rat)(k:Nat):(iP l y k).length=l.length:=by simp[iP]
theorem p5{l:List Rat}{y:Rat}{k x:Nat}(h:x<l.length):gt (iP l y k) x=if x<k then -(gt l x*y) else gt l x:=by unfold iP;rw[bF _ h]
theorem JA(l:List Rat)(y:Rat):iP l y 0=l:=cO (by simp) λx h=>by rw[p5 (by simpa using h)];simp
theorem yr{l:List Rat}{y:Rat}{k:Nat}(h:k<l.length):(iP l y k).set k (-(gt l k*y))=iP l y (k+1):=cO (by simp) λx hx=>by
 have hx:x<l.length:=by simpa using hx
 rw[bG (by simpa using hx),p5 hx,p5 hx];by_cases e:k=x
 ·subst e;simp
 ·rw[if_neg e];by_cases q:x<k
  ·rw[if_pos q,if_pos (by omega)]
  ·rw[if_neg q,if_neg (by omega)]
theorem JL{l:List Rat}{y:Rat}{k:Nat}(h:k<l.length)(hz:gt l k=0):iP l y (k+1)=iP l y k:=by
 rw[<-yr h];refine cO (by simp) λx hx=>?_;have hx:x<l.length:=by simpa using hx
 rw[bG (by simpa using hx),p5 hx];by_cases e:k=x
 ·subst e;rw[if_pos rfl,if_neg (by omega),hz];grind
 ·rw[if_neg e]
def kC(l:List Rat)(j out:Nat):List Rat:=((iP l (1 / gt l j) l.length).set j 0).set out (1 / gt l j)
@[simp] theorem EL(l:List Rat)(j out:Nat):(kC l j out).length=l.length:=by simp[kC]
theorem w9{l:List Rat}{j out x:Nat}(h:x<l.length):gt (kC l j out) x=if out=x then 1 / gt l j else if j=x then 0 else -(gt l x*(1 / gt l j)):=by unfold kC;rw[bG (by simpa using h),bG (by simpa using h),p5 h,if_pos h]
def l4(o l:List Rat)(f:Rat)(k:Nat):List Rat:=(ati o.length).map λx=>if x<k then gt o x+f*gt l x else gt o x
@[simp] theorem LB(o l:List Rat)(f:Rat)(k:Nat):(l4 o l f k).length=o.length:=by simp[l4]
theorem qW{o l:List Rat}{f:Rat}{k x:Nat}(h:x<o.length):gt (l4 o l f k) x=if x<k then gt o x+f*gt l x else gt o x:=by unfold l4;rw[bF _ h]
theorem Jx(o l:List Rat)(f:Rat):l4 o l f 0=o:=cO (by simp) λx h=>by rw[qW (by simpa using h)];simp
theorem Fc{o l:List Rat}{f:Rat}{k:Nat}(h:k<o.length):(l4 o l f k).set k (gt o k+f*gt l k)=l4 o l f (k+1):=cO (by simp) λx hx=>by
 have hx:x<o.length:=by simpa using hx
 rw[bG (by simpa using hx),qW hx,qW hx];by_cases e:k=x
 ·subst e;simp
 ·rw[if_neg e];by_cases q:x<k
  ·rw[if_pos q,if_pos (by omega)]
  ·rw[if_neg q,if_neg (by omega)]
theorem JO{o l:List Rat}{f:Rat}{k:Nat}(h:k<o.length)(hz:gt l k=0):l4 o l f (k+1)=l4 o l f k:=by
 rw[<-Fc h];refine cO (by simp) λx hx=>?_;have hx:x<o.length:=by simpa using hx
 rw[bG (by simpa using hx),qW hx];by_cases e:k=x
 ·subst e;rw[if_pos rfl,if_neg (by omega),hz];grind
 ·rw[if_neg e]
def wq(o l:List Rat)(j:Nat):List Rat:=l4 (o.set j 0) l (gt o j) o.length
@[simp] theorem Ly(o l:List Rat)(j:Nat):(wq o l j).length=o.length:=by simp[wq]
theorem Cd{o l:List Rat}{j x:Nat}(h:x<o.length):gt (wq o l j) x=(if j=x then 0 else gt o x)+gt o j*gt l x:=by unfold wq;rw[qW (by simpa using h),if_pos h,bG (by simpa using h)]
theorem Jv{o l:List Rat}{j:Nat}(hz:gt o j=0):wq o l j=o:=cO (by simp) λx h=>by
 have h:x<o.length:=by simpa using h
 rw[Cd h,hz];split
 ·rename_i e;rw[<-e,hz];grind
 ·grind
def PX(s:Tb)(i j r x:Nat):List Rat:=if x=i then kC (gt s.R i) j (gt s.basic i) else if x<r then wq (gt s.R x) (kC (gt s.R i) j (gt s.basic i)) j else gt s.R x
def tr(s:Tb)(i j r:Nat):List (List Rat):=(ati s.R.length).map (PX s i j r)
@[simp] theorem B0(s:Tb)(i j r:Nat):(tr s i j r).length=s.R.length:=by simp[tr]
theorem nC{s:Tb}{i j r x:Nat}(h:x<s.R.length):gt (tr s i j r) x=PX s i j r x:=by unfold tr;rw[bF _ h]
theorem LW{s:Tb}{i j:Nat}:tr s i j 0=s.R.set i (kC (gt s.R i) j (gt s.basic i)):=cO (by simp) λx hx=>by
 have hx:x<s.R.length:=by simpa using hx
 rw[nC hx,bG (by simpa using hx)];unfold PX;by_cases e:x=i
 ·rw[if_pos e,if_pos e.symm]
 ·rw[if_neg e,if_neg (by omega),if_neg (λq=>e q.symm)]
theorem Ez{s:Tb}{i j r:Nat}(h:r<s.R.length)(hr:r=i∨gt (gt s.R r) j=0):tr s i j (r+1)=tr s i j r:=cO (by simp) λx hx=>by
 have hx:x<s.R.length:=by simpa using hx
 rw[nC hx,nC hx];unfold PX;by_cases e:x=i
 ·rw[if_pos e,if_pos e]
 ·rw[if_neg e,if_neg e];by_cases q:x<r
  ·rw[if_pos q,if_pos (by omega)]
  ·rw[if_neg q];by_cases q2:x=r
   ·subst q2;rw[if_pos (by omega),Jv (hr.resolve_left e)]
   ·rw[if_neg (by omega)]
theorem KP{s:Tb}{i j r:Nat}(h:r<s.R.length)(hr:r≠i):(tr s i j r).set r (wq (gt s.R r) (kC (gt s.R i) j (gt s.basic i)) j)=tr s i j (r+1):=cO (by simp) λx hx=>by
 have hx:x<s.R.length:=by simpa using hx
 rw[bG (by simpa using hx),nC hx,nC hx];unfold PX;by_cases e:r=x
 ·subst e;rw[if_pos rfl,if_neg hr,if_pos (by omega)]
 ·rw[if_neg e];by_cases e2:x=i
  ·rw[if_pos e2,if_pos e2]
  ·rw[if_neg e2,if_neg e2];by_cases q:x<r
   ·rw[if_pos q,if_pos (by omega)]
   ·rw[if_neg q,if_neg (by omega)]
def gH(s:Tb)(i j:Nat):Tb:=⟨s.wh.set j 1,s.x,s.basic.set i j,(s.row.set j i).set (gt s.basic i) (-1),tr s i j s.R.length⟩
theorem OG{l:List Rat}{j out W:Nat}(h2:2<=W)(h:Wd W l)(hj:j<l.length):Wd (2*W+1) (kC l j out):=λx hx=>by
 have hx:x<l.length:=by simpa using hx
 have q1:qw (1+W) (1 / gt l j):=kX (mE (k:=1) (x:=1) (k7 (by omega)) (by omega)) (h j hj) (by omega);rw[w9 hx];split
 ·exact ay q1 (by omega)
 ·split
  ·exact ay (mE (k:=1) (x:=0) (jK _) (by omega)) (by omega)
  ·exact ay (fh (cx (h x hx) q1 (by omega))) (by omega)
end Go.Sx
namespace Go.Proofs
open Go.Sv Go Go.Tb Go.Pl Go.Ut Go.Mx Go.Li Go.Dt Go.Sx
noncomputable def lC:Code:=axr.body.getD .skip
theorem Z4(c:Tc)(s:Tb)(hc:oR c)(h:ui c s){W:Nat}(h2:2<=W)(hW:∀i,i<c.m->Wd W (gt s.R i))(hz:5*W<=10000000000){i j:Nat}(hi:i<c.m)(hj:j<c.N){C:Ctx}(fx:∀k∈C.fx,k<c.m+6) :
  aa awW C (bs 7 lC) ⟨147,[(0,.ptr 0 0 0),(1,iv i),(2,iv j),(6,iv (gt s.basic i:Nat))],tT c { s with R:=tr s i j c.m } [some ⟨4,[aU (1 / gt (gt s.R i) j)],false⟩]⟩
   (gK awW [] [] (rn (tT c s []) [] (λT x=>T=tT c (gH s i j) []∧x=.bP []))):=by
 have h7:=hc.m7;have aG:=hc.sq;have hR:=h.R;have hx:=h.x;have hb:=h.b;have aj:=h.r;have aC:=h.w;have am:=iF (l:=s.basic) (i:=i) (by omega);have ar:=gj (N:=c.N) (m:=c.m) (i:=i) hi;have ax:=h.bb i hi;have Ri:=h.Rr i hi;have tg:=λtl:aD=>e9 (C:=s.R) (tl:=tl) (e:=i) (by omega);have lj:=bS (l:=gt s.R i) (i:=j) (by omega);have qj:=hW i hi j (by omega);have q1:qw 1 (1:Rat):=mE (k:=1) (x:=1) (k7 (by omega)) (by omega);have qi:qw (1+W) (1 / gt (gt s.R i) j):=kX q1 qj (by omega);have ab:(tr s i j c.m).length=c.m:=by rw[B0,hR]
 simp only[lC,axr,ate,ai,ah];refine aa.go ?_;simp only[tT,tH,tS,as8,at3];refine aa.asj (.qs [0,1,2,3,4,5,6,7,8,9,10,11,12,13,14,15,16,17]<|.l 18 [3]<|.qs [19]<|.l 20 [4]<|.qs [21]<|.l 22 [4]<|.nil) ?_;have a3:=cf (l:=s.row) (i:=j) (by omega);have a4:=cf (l:=s.row.set j i) (i:=gt s.basic i) (by simp;omega);have a5:=cf (l:=s.wh) (i:=j) (by omega);simp(disch:=omega)[ab,hi,hj,hb,aj,aC,am,ax,a3,a4,a5,dA,KW, -aue];repeat refine asi ?_
 have eT:gH s i j=⟨s.wh.set j 1,s.x,s.basic.set i j,(s.row.set j i).set (gt s.basic i) (-1),tr s i j c.m⟩:=by unfold gH;rw[hR]
 rw[eT];exact⟨_,_,⟨rfl,rfl⟩,rfl,FC c ⟨s.wh.set j 1,s.x,s.basic.set i j,(s.row.set j i).set (gt s.basic i) (-1),tr s i j c.m⟩ _,by simp,.inr ⟨by simp,Ct (c:=c) (s:=⟨s.wh.set j 1,s.x,s.basic.set i j,(s.row.set j i).set (gt s.basic i) (-1),tr s i j c.m⟩) ab⟩⟩
theorem acb(c:Tc)(s:Tb)(hc:oR c)(h:ui c s){W:Nat}(h2:2<=W)(hW:∀i,i<c.m->Wd W (gt s.R i))(hz:5*W<=10000000000){i j:Nat}(hi:i<c.m)(hj:j<c.N){C:Ctx}(fx:∀k∈C.fx,k<c.m+6) :
  aa awW C (bs 5 lC) ⟨147,[(0,.ptr 0 0 0),(1,iv i),(2,iv j),(6,iv (gt s.basic i:Nat)),(7,.view (i+6) 0 c.N),(8,.ptr (c.m+6) 0 0)],tT c { s with R:=s.R.set i ((iP (gt s.R i) (1 / gt (gt s.R i) j) c.N).set j 0) } [some ⟨4,[aU (1 / gt (gt s.R i) j)],false⟩]⟩
   (gK awW [] [] (rn (tT c s []) [] (λT x=>T=tT c (gH s i j) []∧x=.bP []))):=by
 have h7:=hc.m7;have aG:=hc.sq;have hR:=h.R;have hx:=h.x;have hb:=h.b;have aj:=h.r;have aC:=h.w;have am:=iF (l:=s.basic) (i:=i) (by omega);have ar:=gj (N:=c.N) (m:=c.m) (i:=i) hi;have ax:=h.bb i hi;have Ri:=h.Rr i hi;have tg:=λtl:aD=>e9 (C:=s.R) (tl:=tl) (e:=i) (by omega);have lj:=bS (l:=gt s.R i) (i:=j) (by omega);have qj:=hW i hi j (by omega);have q1:qw 1 (1:Rat):=mE (k:=1) (x:=1) (k7 (by omega)) (by omega);have qi:qw (1+W) (1 / gt (gt s.R i) j):=kX q1 qj (by omega);have aI:(iP (gt s.R i) (1 / gt (gt s.R i) j) c.N).length=c.N:=by rw[yK,Ri]
 have aV:((iP (gt s.R i) (1 / gt (gt s.R i) j) c.N).set j 0).set (gt s.basic i) (1 / gt (gt s.R i) j)=kC (gt s.R i) j (gt s.basic i):=by unfold kC;rw[Ri]
 have aW:((iP (gt s.R i) (1 / gt (gt s.R i) j) c.N).set j 0).length=c.N:=by rw[avs,aI]
 generalize (iP (gt s.R i) (1 / gt (gt s.R i) j) c.N).set j 0=l0 at *;have aJ:=λtl:aD=>e9 (C:=s.R.set i l0) (tl:=tl) (e:=i) (by simp;omega);rw[show gt (s.R.set i l0) i=l0 by rw[bG (by omega),if_pos rfl]]at aJ;have aL:=λtl:aD=>wG (C:=s.R.set i l0) (tl:=tl) (e:=i) (r:=kC (gt s.R i) j (gt s.basic i)) (by simp;omega);rw[avt,<-LW,<-aV]at aL;have aO:(s.R.set i l0).length=c.m:=by simpa using hR
 have lk:=bS (l:=l0) (i:=gt s.basic i) (by omega);have p3:=OG (out:=gt s.basic i) h2 (hW i hi) (show j<(gt s.R i).length by omega);have az:(kC (gt s.R i) j (gt s.basic i)).length=c.N:=by rw[EL,Ri]
 refine aa.cutAt 2 (λst=>st=⟨147,[(0,.ptr 0 0 0),(1,iv i),(2,iv j),(6,iv (gt s.basic i:Nat))],tT c { s with R:=tr s i j c.m } [some ⟨4,[aU (1 / gt (gt s.R i) j)],false⟩]⟩) ?_ ?_
 rotate_left 1
 ·rintro st rfl;have:=Z4 c s hc h h2 hW hz hi hj fx;simp only[lC,axr,ate,ai,ah]at this ⊢;exact this
 simp only[lC,axr,ate,ai,ah,aN,aM];simp only[tT,tH,tS,as8,at3];simp(disch:=omega)[aJ,cE aO,aW,lk,cg,aL, -aue];repeat refine asi ?_
 refine aa.bM (ι:=Nat) (λr=>⟨147,[(0,.ptr 0 0 0),(1,iv i),(2,iv j),(6,iv (gt s.basic i:Nat)),(7,.view (i+6) 0 c.N),(8,.ptr (c.m+6) 0 0),(71,.view 5 0 c.m),(72,iv c.m),(73,iv r)],tT c { s with R:=tr s i j r } [some ⟨4,[aU (1 / gt (gt s.R i) j)],false⟩]⟩)
  (λr=>r<=c.m) (λr=>c.m - r) 0 (by simp) ?_ ?_
 ·simp[aR,tT,tH,tS,aq]
 ·rintro r hr;have ab:(tr s i j r).length=c.m:=by rw[B0,hR]
  by_cases af:r<c.m
  ·have aP:=gj (N:=c.N) (m:=c.m) (i:=r) af;have er:gt (tr s i j r) r=if r=i then kC (gt s.R i) j (gt s.basic i) else gt s.R r:=by
    rw[nC (by omega)];unfold PX;rw[if_neg (show ¬r<r by omega)]
   have au:=λtl:aD=>e9 (C:=tr s i j r) (tl:=tl) (e:=r) (by omega);have Rr:=h.Rr r af;by_cases e:r=i
   ·subst e;rw[if_pos rfl]at er;rw[er]at au;have aA:=bS (l:=kC (gt s.R r) j (gt s.basic r)) (i:=j) (by omega);simp only[tT,tH,tS,as8,at3];simp(disch:=omega)[af,aP,au,ab,vV ab,zF ab,az,aA,hj];repeat refine asi ?_
    refine⟨r+1,by omega,by omega,?_⟩;rw[Ez (by omega) (.inl rfl)];exact eP { s with R:=tr s r j r } ab fx (by simp(disch:=omega)[bU,Go.Sv.get,aK]) (by simp[fI]) (by simp[gz];omega) (by simp[ee])
   ·rw[if_neg e]at er;rw[er]at au;have aA:=bS (l:=gt s.R r) (i:=j) (by omega);have e':¬(r:Int)=i:=by omega
    simp only[tT,tH,tS,as8,at3];simp(disch:=omega)[af,aP,au,ab,vV ab,zF ab,Rr,aA,hj,e'];repeat refine asi ?_
    have nx:=KP (s:=s) (i:=i) (j:=j) (r:=r) (by omega) e;have gi:∀y,gt ((tr s i j r).set r y) i=kC (gt s.R i) j (gt s.basic i):=λy=>by rw[bG (by omega),if_neg e,nC (by omega)];unfold PX;rw[if_pos rfl]
    clear e e' er am ar aJ aL aV tg;refine asl (gM (gt (gt s.R r) j)) ?_;simp(disch:=omega)[aK,avu,avv];repeat refine asi ?_
    refine⟨λz=>?_,λz=>?_⟩
    ·refine⟨r+1,by omega,by omega,?_⟩;rw[Ez (by omega) (.inr z)];exact eP { s with R:=tr s i j r } ab fx (by simp(disch:=omega)[bU,Go.Sv.get]) (by simp[fI]) (by simp[gz];omega) (by simp[ee])
    ·simp(disch:=omega)[au,Rr,aA,hj];repeat refine asi ?_
     refine aa.le (Lf (tl:=[some ⟨4,[aU (1 / gt (gt s.R i) j)],false⟩,some ⟨4,[aU (gt (gt s.R r) j)],false⟩]) (tl':=[some ⟨4,[aU (1 / gt (gt s.R i) j)],false⟩,some ⟨4,[aU (gt (gt s.R r) j)],false⟩])
      (fr':=[(0,.ptr 0 0 0),(1,iv i),(2,iv j),(6,iv (gt s.basic i:Nat)),(7,.view (i+6) 0 c.N),(8,.ptr (c.m+6) 0 0),(71,.view 5 0 c.m),(72,iv c.m),(73,iv r),(12,.view (r+6) 0 c.N),(13,.ptr (c.m+7) 0 0),(95,iv c.N),(96,iv (0:Nat))]) { s with R:=tr s i j r } ab af fx ?_ (by simp[]) (by simp[gz];omega) (by simp[ee])) ?_
     ·simp[bU,Go.Sv.get]
     have oN:((gt s.R r).set j 0).length=c.N:=by rw[avs,Rr]
     have qf:=hW r af j (by omega);have qo:∀k,k<c.N->qw W (gt ((gt s.R r).set j 0) k):=λk hk=>by
      rw[bG (by omega)];split
      ·exact ay (mE (k:=1) (x:=0) (jK _) (by omega)) (by omega)
      ·exact hW r af k (by omega)
     rw[show wq (gt s.R r) (kC (gt s.R i) j (gt s.basic i)) j=l4 ((gt s.R r).set j 0) (kC (gt s.R i) j (gt s.basic i)) (gt (gt s.R r) j) c.N by unfold wq;rw[Rr]]at nx;generalize kC (gt s.R i) j (gt s.basic i)=l2 at *;generalize (gt s.R r).set j 0=o0 at *;generalize tr s i j r=R0 at *;generalize gt (gt s.R r) j=f at *;generalize 1 / gt (gt s.R i) j=inv at *;clear hx hb aj aC Ri aI aW aO Rr aA lj hR hr au aP;refine aa.bM (ι:=Nat) (λk=>⟨147,[(0,.ptr 0 0 0),(1,iv i),(2,iv j),(6,iv (gt s.basic i:Nat)),(7,.view (i+6) 0 c.N),(8,.ptr (c.m+6) 0 0),(71,.view 5 0 c.m),(72,iv c.m),(73,iv r),(12,.view (r+6) 0 c.N),(13,.ptr (c.m+7) 0 0),(95,iv c.N),(96,iv k)],
      tT c { s with R:=R0.set r (l4 o0 l2 f k) } [some ⟨4,[aU inv],false⟩,some ⟨4,[aU f],false⟩]⟩)
      (λk=>k<=c.N) (λk=>c.N - k) 0 (by simp) ?_ ?_
     ·rw[Jx];simp[aR,tT,tH,tS,aq,bU,Go.Sv.get]
     ·rintro k hk;have aS:(l4 o0 l2 f k).length=c.N:=by rw[LB,oN]
      have ac:(R0.set r (l4 o0 l2 f k)).length=c.m:=by rw[avs,ab]
      have aE:=λtl:aD=>e9 (C:=R0.set r (l4 o0 l2 f k)) (tl:=tl) (e:=r) (by rw[ac];exact af);rw[show ∀y,gt (R0.set r y) r=y from λy=>by rw[bG (by rw[ab];exact af),if_pos rfl]]at aE;have aB:=λtl:aD=>e9 (C:=R0.set r (l4 o0 l2 f k)) (tl:=tl) (e:=i) (by rw[ac];exact hi);rw[gi]at aB;by_cases ag:k<c.N
      ·have lp:=bS (l:=l2) (i:=k) (by omega);have lo:=bS (l:=l4 o0 l2 f k) (i:=k) (by omega);rw[qW (by omega),if_neg (show ¬k<k by omega)]at lo;have qp:=p3 k (by omega);have aT:=qo k ag;have ts:=λtl:aD=>wG (C:=R0.set r (l4 o0 l2 f k)) (tl:=tl) (e:=r) (r:=l4 o0 l2 f (k+1)) (by rw[ac];exact af);have aY:=Fc (o:=o0) (l:=l2) (f:=f) (k:=k) (by omega);have ak:=JO (o:=o0) (l:=l2) (f:=f) (k:=k) (by omega);rw[avt,<-aY]at ts;have al:(R0.set r (l4 o0 l2 f (k+1))).length=c.m:=by rw[avs,ab]
       generalize hA:l4 o0 l2 f k=ad at *;generalize hB:R0.set r ad=Rk at *;clear ab oN;simp only[tT,tH,tS,as8,at3];simp(disch:=omega)[ag,aB,az,lp];repeat refine asi ?_
       refine asl (gM _) ?_;simp(disch:=omega)[aK,avu,avv];repeat refine asi ?_
       refine⟨λz2=>?_,λz2=>?_⟩
       ·refine aa.draw (.qs [0,1,2,3,4,5,6,7,8,9,10]<|.l 11 []<|.l 12 []<|.qs [13]<|.l 14 [r+6]<|.nil) (by kernel_rfl) (by kernel_rfl) (by simp) ?_;simp(disch:=omega)[ag,aB,aE,az,aS,lp,lo,vV ac];repeat refine asi ?_
        refine asl (nV _ _ (ao qf (by omega)) (ao qp (by omega))) ?_;simp(disch:=omega)[aE];repeat refine asi ?_
        refine asl (nW _ _ (ao aT (by omega)) (ao (cx qf qp (by omega)) (by omega))) ?_;simp(disch:=omega)[ag,aE,aS,lo,cg,ts,aK, -aue];repeat refine asi ?_
        refine⟨k+1,by omega,by omega,?_⟩;rw[aY];exact eP { s with R:=R0.set r (l4 o0 l2 f (k+1)) } al fx (by simp(disch:=omega)[bU,Go.Sv.get]) (by simp[fI]) (by simp[gz];omega) (by simp[ee])
       ·refine⟨k+1,by omega,by omega,?_⟩;rw[ak z2,hB];exact eP { s with R:=Rk } ac fx (by simp(disch:=omega)[bU,Go.Sv.get]) (by simp[fI]) (by simp[gz];omega) (by simp[ee])
      ·obtain rfl:k=c.N:=by omega
       simp only[tT,tH,tS,as8,at3];simp(disch:=omega)[];repeat refine asi ?_
       refine⟨r+1,by omega,by omega,?_⟩;rw[nx];exact eP { s with R:=tr s i j (r+1) } (by rw[<-nx];exact ac) fx (by simp(disch:=omega)[bU,Go.Sv.get,aK]) (by simp[fI]) (by simp[gz];omega) (by simp[ee])
  ·obtain rfl:r=c.m:=by omega
   simp only[tT,tH,tS,as8,at3];simp(disch:=omega)[];repeat refine asi ?_
   exact⟨rfl,by simp[bU,Go.Sv.get],aq _,.inl rfl⟩
theorem pt(c:Tc)(s:Tb)(hc:oR c)(h:ui c s){W:Nat}(h2:2<=W)(hW:∀i,i<c.m->Wd W (gt s.R i))(hz:5*W<=10000000000){i j:Nat}(hi:i<c.m)(hj:j<c.N)(hp:gt (gt s.R i) j≠0) :
  kv awW 128 [.ptr 0 0 0,iv i,iv j] (tT c s []) [] (λT x=>T=tT c (gH s i j) []∧x=.bP []):=by
 have h7:=hc.m7;have aG:=hc.sq;have hR:=h.R;have hx:=h.x;have hb:=h.b;have aj:=h.r;have aC:=h.w;have am:=iF (l:=s.basic) (i:=i) (by omega);have ar:=gj (N:=c.N) (m:=c.m) (i:=i) hi;have ax:=h.bb i hi;have Ri:=h.Rr i hi;have tg:=λtl:aD=>e9 (C:=s.R) (tl:=tl) (e:=i) (by omega);have lj:=bS (l:=gt s.R i) (i:=j) (by omega);have qj:=hW i hi j (by omega);have q1:qw 1 (1:Rat):=mE (k:=1) (x:=1) (k7 (by omega)) (by omega);have qi:qw (1+W) (1 / gt (gt s.R i) j):=kX q1 qj (by omega);have aI:(iP (gt s.R i) (1 / gt (gt s.R i) j) c.N).length=c.N:=by rw[yK,Ri]
 refine iQ Tryz.func128 rfl (by simp) (λC hC=>?_);have fx:=oJ hR hC;show aa _ _ lC _ (gK _ [] _ _);refine aa.cutAt 5 (λst=>st=⟨147,[(0,.ptr 0 0 0),(1,iv i),(2,iv j),(6,iv (gt s.basic i:Nat)),(7,.view (i+6) 0 c.N),(8,.ptr (c.m+6) 0 0)],
  tH c s++aX (ey (s.R.set i (iP (gt s.R i) (1 / gt (gt s.R i) j) c.N))++[some ⟨4,[aU (1 / gt (gt s.R i) j)],false⟩]) i (some ⟨4,cZ ((iP (gt s.R i) (1 / gt (gt s.R i) j) c.N).map aU) j (.agg [.val (.bool false),.val (.slice none 0 0),.val (.bool false),.val (.slice none 0 0)]),false⟩)⟩) ?_ ?_
 rotate_left 1
 ·rintro st rfl;refine aa.le (Lf (tl':=[some ⟨4,[aU (1 / gt (gt s.R i) j)],false⟩]) (fr':=[(0,.ptr 0 0 0),(1,iv i),(2,iv j),(6,iv (gt s.basic i:Nat)),(7,.view (i+6) 0 c.N),(8,.ptr (c.m+6) 0 0)]) { s with R:=s.R.set i (iP (gt s.R i) (1 / gt (gt s.R i) j) c.N) } (by simpa using hR) hi fx (by simp[bU,Go.Sv.get]) (by simp[]) (by simp[gz];omega) (by simp[ee])) ?_;simp only[avt];exact acb c s hc h h2 hW hz hi hj fx
 simp only[lC,axr,ate,aN,aM];simp only[tT,tH,tS,as8,at3];simp(disch:=omega)[am,ar,hb];repeat refine asi ?_
 refine aa.jZ (.d 9<|.qs [1,2,3,4]<|.p 0<|.p 5<|.qs [6,7,8]<|.b (.l 10 [c.m+6]<|.qs [11]<|.nil)) (by kernel_rfl) (by kernel_rfl) (by simp) ?_;simp(disch:=omega)[hj,tg,lj,Ri];repeat refine asi ?_
 refine fG (CC 1 (by omega) (by omega)) (by simp) ?_;simp(disch:=omega)[hR];repeat refine asi ?_
 refine fG (oC _ _ (ao q1 (by omega)) (ao qj (by omega))) (by simp) ?_;simp(disch:=omega)[cE hR,cP hR];repeat refine asi ?_
 generalize hinv:1 / gt (gt s.R i) j=inv at *;refine aa.bM (ι:=Nat) (λk=>⟨147,[(0,.ptr 0 0 0),(1,iv i),(2,iv j),(6,iv (gt s.basic i:Nat)),(7,.view (i+6) 0 c.N),(8,.ptr (c.m+6) 0 0),(39,iv c.N),(40,iv k)],tT c { s with R:=s.R.set i (iP (gt s.R i) inv k) } [some ⟨4,[aU inv],false⟩]⟩)
  (λk=>k<=c.N) (λk=>c.N - k) 0 (by simp) ?_ ?_
 ·rw[JA];have e0:s.R.set i (gt s.R i)=s.R:=cO (by simp) λx hx=>by
   rw[bG (by simpa using hx)];split
   ·rename_i e;rw[e]
   ·rfl
  rw[e0];simp[aR,tT,tH,tS,aq]
 ·rintro k hk;have al:(s.R.set i (iP (gt s.R i) inv k)).length=c.m:=by simpa using hR
  have av:=λtl:aD=>e9 (C:=s.R.set i (iP (gt s.R i) inv k)) (tl:=tl) (e:=i) (by omega);rw[show gt (s.R.set i (iP (gt s.R i) inv k)) i=iP (gt s.R i) inv k by rw[bG (by omega),if_pos rfl]]at av;have nl:(iP (gt s.R i) inv k).length=c.N:=by rw[yK,Ri]
  simp only[tT,tH,tS,as8,at3];by_cases ag:k<c.N
  ·have lk:=bS (l:=iP (gt s.R i) inv k) (i:=k) (by omega);rw[p5 (by omega),if_neg (by omega)]at lk;have qk:=hW i hi k (by omega);have ts:=λtl:aD=>wG (C:=s.R.set i (iP (gt s.R i) inv k)) (tl:=tl) (e:=i) (r:=iP (gt s.R i) inv (k+1)) (by omega);rw[avt,<-yr (by omega)]at ts;simp(disch:=omega)[ag,av,nl,lk];repeat refine asi ?_
   refine asl (gM (gt (gt s.R i) k)) ?_;simp(disch:=omega)[aK,avu,avv];repeat refine asi ?_
   refine⟨λz=>?_,λz=>?_⟩
   ·refine aa.draw (.qs [0,1,2,3,4,5,6]<|.l 7 []<|.l 8 []<|.qs [9]<|.l 10 [i+6]<|.nil) (by kernel_rfl) (by kernel_rfl) (by simp) ?_;simp(disch:=omega)[ag,av,nl,lk,cE al];repeat refine asi ?_
    refine asl (nV _ _ (ao qk (by omega)) (ao qi (by omega))) ?_;simp(disch:=omega)[av];repeat refine asi ?_
    refine asl (iZ _) ?_;simp(disch:=omega)[ag,av,nl,lk,cg,ts,aK, -aue];repeat refine asi ?_
    rw[yr (by omega)];exact⟨k+1,by omega,by omega,eP { s with R:=s.R.set i (iP (gt s.R i) inv (k+1)) } (by simpa using hR) fx (by simp(disch:=omega)[bU,Go.Sv.get]) (by simp[fI]) (by simp[gz];omega) (by simp[ee])⟩
   ·refine⟨k+1,by omega,by omega,?_⟩;rw[JL (by omega) z];exact eP { s with R:=s.R.set i (iP (gt s.R i) inv k) } (by simpa using hR) fx (by simp(disch:=omega)[bU,Go.Sv.get]) (by simp[fI]) (by simp[gz];omega) (by simp[ee])
  ·obtain rfl:k=c.N:=by omega
   have lk:=bS (l:=iP (gt s.R i) inv c.N) (i:=j) (by omega);simp(disch:=omega)[av,nl,lk];repeat refine asi ?_
   exact⟨rfl,by simp[bU,Go.Sv.get],aq _,.inl rfl⟩
end Go.Proofs
namespace Go.Sx
open Go Go.Sv Go.Pl Go.Proofs Go.Tb Go.Ut Go.Mx Go.Li Go.Dt
structure u9(K:(Nat->Rat)->Prop)(N m:Nat)(basic:List Nat)(R:List (List Rat)):Prop where
 bl:∀i,i<m->gt basic i<N
 inj:∀i k,i<m->k<m->gt basic i=gt basic k->i=k
 z0:∀r i,r<m->i<m->gt (gt R r) (gt basic i)=0
 sat:∀z,K z↔∀r,r<m->z (gt basic r)=aH (λk=>gt (gt R r) k*z k) N
theorem PD{l:List Rat}{N j out:Nat}(hl:l.length=N)(hj:j<N)(ho:out<N)(hz:gt l out=0)(hp:gt l j≠0)(z:Nat->Rat) :
  aH (λk=>gt (kC l j out) k*z k) N=1 / gt l j*(z out - aH (λk=>gt l k*z k) N)+z j:=by
 have a6:out≠j:=λe=>hp (by rw[<-e];exact hz);have e1:aH (λk=>gt (kC l j out) k*z k) N=aH (λk=>1 / gt l j*((if k=out then z out else 0) - gt l k*z k)+1 / gt l j*(if k=j then gt l j*z j else 0)) N:=aQ N λk hk=>by
  rw[w9 (by omega)];by_cases q1:out=k
  ·subst q1;rw[if_pos rfl,if_pos rfl,if_neg a6,hz];grind
  ·have a1:¬k=out:=λq=>q1 q.symm;by_cases q2:j=k
   ·subst q2;simp only[if_neg q1,if_neg a1,if_true];grind
   ·have a2:¬k=j:=λq=>q2 q.symm;simp only[if_neg q1,if_neg a1,if_neg q2,if_neg a2];grind
 rw[e1,js,jm,jm,jY,cu (p:=out) N ho (λk _ hk=>if_neg hk),cu (p:=j) N hj (λk _ hk=>if_neg hk),if_pos rfl,if_pos rfl];have e2:1 / gt l j*(gt l j*z j)=z j:=by rw[<-Rat.mul_assoc,avw hp,Rat.one_mul]
 rw[e2]
theorem Iv{o l:List Rat}{N j:Nat}(ho:o.length=N)(hj:j<N)(z:Nat->Rat) :
  aH (λk=>gt (wq o l j) k*z k) N=aH (λk=>gt o k*z k) N - gt o j*z j+gt o j*aH (λk=>gt l k*z k) N:=by
 have e1:aH (λk=>gt (wq o l j) k*z k) N=aH (λk=>(gt o k*z k - (if k=j then gt o j*z j else 0))+gt o j*(gt l k*z k)) N:=aQ N λk hk=>by
  rw[Cd (by omega)];by_cases q:j=k
  ·subst q;rw[if_pos rfl,if_pos rfl];grind
  ·rw[if_neg q,if_neg (λq'=>q q'.symm)];grind
 rw[e1,js,jY,jm,cu (p:=j) N hj (λk _ hk=>if_neg hk),if_pos rfl]
theorem u9.yS{K:(Nat->Rat)->Prop}{N m:Nat}{s:Tb}(h:u9 K N m s.basic s.R)(hb:s.basic.length=m)(hR:s.R.length=m)(hr:∀r,r<m->(gt s.R r).length=N){i j:Nat}(hi:i<m)(hj:j<N)(hp:gt (gt s.R i) j≠0) :
  u9 K N m (gH s i j).basic (gH s i j).R:=by
 have a7:=h.z0 i i hi hi;have ho:=h.bl i hi;have an:∀k,k<m->gt s.basic k≠j:=λk hk e=>hp (by rw[<-e];exact h.z0 i k hi hk);have gb:∀k,k<m->gt (gH s i j).basic k=if i=k then j else gt s.basic k:=λk hk=>by show gt (s.basic.set i j) k=_;rw[bG (by omega)]
 have gR:∀r,r<m->gt (gH s i j).R r=if r=i then kC (gt s.R i) j (gt s.basic i) else wq (gt s.R r) (kC (gt s.R i) j (gt s.basic i)) j:=λr ae=>by
  show gt (tr s i j s.R.length) r=_;rw[nC (by omega)];unfold PX;split
  ·rfl
  ·rw[if_pos (by omega)]
 have bo:∀k,k<m->k≠i->gt s.basic i≠gt s.basic k:=λk hk a8 e=>a8 (h.inj i k hi hk e).symm;have pz:∀k,k<m->gt (kC (gt s.R i) j (gt s.basic i)) (if i=k then j else gt s.basic k)=0:=λk hk=>by
  have ap:=h.bl k hk;by_cases e:i=k
  ·rw[if_pos e,w9 (by rw[hr i hi];exact hj),if_neg (an i hi),if_pos rfl]
  ·rw[if_neg e,w9 (by rw[hr i hi];exact ap),if_neg (bo k hk (λq=>e q.symm)),if_neg (λq=>an k hk q.symm),h.z0 i k hi hk];grind
 refine⟨λk hk=>?_,λk k' hk ap e=>?_,λr k ae hk=>?_,λz=>?_⟩
 ·rw[gb k hk];split
  ·exact hj
  ·exact h.bl k hk
 ·rw[gb k hk,gb k' ap]at e;by_cases e1:i=k
  ·rw[if_pos e1]at e;by_cases e2:i=k'
   ·omega
   ·rw[if_neg e2]at e;exact absurd e.symm (an k' ap)
  ·rw[if_neg e1]at e;by_cases e2:i=k'
   ·rw[if_pos e2]at e;exact absurd e (an k hk)
   ·rw[if_neg e2]at e;exact h.inj k k' hk ap e
 ·rw[gb k hk,gR r ae];split
  ·exact pz k hk
  ·have ap:=h.bl k hk;rw[Cd (by rw[hr r ae];split;exact hj;exact ap),pz k hk];by_cases e:i=k
   ·rw[if_pos e,if_pos rfl];grind
   ·rw[if_neg e,if_neg (λq=>an k hk q.symm),h.z0 r k ae hk];grind
 ·have sp:=PD (hr i hi) hj ho a7 hp z;have inv1:1 / gt (gt s.R i) j≠0:=λe=>by
   have:1 / gt (gt s.R i) j*gt (gt s.R i) j=1:=avw hp;rw[e]at this;grind
  rw[h.sat z];constructor
  ·intro hs r ae;have aF:=hs i hi;rw[gb r ae,gR r ae];by_cases e:r=i
   ·rw[if_pos e.symm,if_pos e,sp,aF];grind
   ·rw[if_neg (λq=>e q.symm),if_neg e,Iv (hr r ae) hj z,sp,aF,hs r ae];grind
  ·intro hs;have aF:=hs i hi;rw[gb i hi,gR i hi,if_pos rfl,if_pos rfl,sp]at aF;have aZ:z (gt s.basic i)=aH (λk=>gt (gt s.R i) k*z k) N:=by
    have:1 / gt (gt s.R i) j*(z (gt s.basic i) - aH (λk=>gt (gt s.R i) k*z k) N)=0:=by grind
    rcases Rat.mul_eq_zero.1 this with q | q
    ·exact absurd q inv1
    ·grind
   intro r ae;by_cases e:r=i
   ·rw[e];exact aZ
   ·have h1:=hs r ae;rw[gb r ae,gR r ae,if_neg (λq=>e q.symm),if_neg e,Iv (hr r ae) hj z,sp,aZ]at h1;rw[h1];grind
end Go.Sx
set_option maxRecDepth 10000
namespace Go.Sx
open Go Go.Sv Go.Pl Go.Proofs Go.Tb Go.Ut Go.Mx Go.Li Go.Dt
def dL(c:Tc)(s:Tb)(j i:Nat):Rat:=gt c.cost j+aH (λi=>gt c.cost (gt s.basic i)*gt (gt s.R i) j) i
theorem AH(c:Tc)(s:Tb)(j:Nat):dL c s j 0=gt c.cost j:=by unfold dL;simp only[aH];grind
theorem Bc(c:Tc)(s:Tb)(j i:Nat):dL c s j (i+1)=dL c s j i+gt c.cost (gt s.basic i)*gt (gt s.R i) j:=by unfold dL;simp only[aH];grind
theorem CK{c:Tc}{s:Tb}{j W V:Nat}(hj:Proofs.qw V (gt c.cost j)):∀i,(∀k,k<i->Proofs.qw V (gt c.cost (gt s.basic k))∧Proofs.qw W (gt (gt s.R k) j))->1<=V->Proofs.qw (V+i*(W+V+1)) (dL c s j i)
 | 0,_,_=>by rw[AH];exact ay hj (by omega)
 | i+1,h,h1=>by rw[Bc];have hi:=h i (by omega);refine ay (kg (CK hj i (λk hk=>h k (by omega)) h1) (cx hi.1 hi.2 (by omega))) ?_;rw[Nat.add_mul];omega
end Go.Sx
namespace Go.Proofs
open Go.Sv Go Go.Tb Go.Pl Go.Ut Go.Mx Go.Li Go.Dt Go.Sx
theorem tz(c:Tc)(s:Tb)(hc:oR c)(h:ui c s){W V:Nat}(hW:∀i,i<c.m->Wd W (gt s.R i))(hV:Wd V c.cost)(h1:1<=V)(hz:V+7*(W+V+1)<=10000000000){j:Nat}(hj:j<c.N) :
  kv awW 85 [.ptr 0 0 0,iv j] (tT c s []) [] (λT x=>T=tT c s []∧x=aU (dL c s j c.m)):=by
 have h7:=hc.m7;have aG:=hc.sq;have a0:=hc.co;have hR:=h.R;have hb:=h.b;have lc:=bS (l:=c.cost) (i:=j) (by omega);refine gu Tryz.func85 rfl (by simp) (λC hC=>?_);have fx:=oJ hR hC;simp only[tT,tH,tS,as8,at3];simp(disch:=omega)[a0,lc,hj,hR,vV hR,zF hR];repeat refine asi ?_
 refine aa.bM (ι:=Nat) (λi=>⟨53,[(0,.ptr 0 0 0),(1,iv j),(4,.ptr (c.m+6) 0 0),(5,.ptr (c.m+7) 0 0),(18,.view 5 0 c.m),(19,iv c.m),(20,iv i)],
  tT c s [some ⟨4,[.agg [.val (.bool false),.val (.slice none 0 0),.val (.bool false),.val (.slice none 0 0)]],false⟩,some ⟨4,[aU (dL c s j i)],false⟩]⟩)
  (λi=>i<=c.m) (λi=>c.m - i) 0 (by simp) ?_ ?_
 ·rw[AH];exact⟨rfl,by simp[bU,Go.Sv.get],aq _,.inl rfl⟩
 ·rintro i hi;by_cases aw:i<c.m
  ·have ar:=gj (N:=c.N) (m:=c.m) (i:=i) aw;have tg:=λtl:aD=>e9 (C:=s.R) (tl:=tl) (e:=i) (by omega);have Ri:=h.Rr i aw;have lj:=bS (l:=gt s.R i) (i:=j) (by omega);have am:=iF (l:=s.basic) (i:=i) (by omega);have ax:=h.bb i aw;have a9:=bS (l:=c.cost) (i:=gt s.basic i) (by omega);have q1:=hW i aw j (by omega);have q2:=hV (gt s.basic i) (by omega);have q3:=CK (hV j (by omega)) i (λk hk=>⟨hV (gt s.basic k) (by have:=h.bb k (by omega);omega),hW k (by omega) j (by have:=h.Rr k (by omega);omega)⟩) h1;have q4:V+i*(W+V+1)<=V+7*(W+V+1):=by
    have:=Nat.mul_le_mul_right (W+V+1) (show i<=7 by omega);omega
   have nx:=Bc c s j i;generalize dL c s j i=d at *;simp only[tT,tH,tS,as8,at3];simp(disch:=omega)[aw,ar,tg,lj,Ri,hj];repeat refine asi ?_
   refine asl (gM (gt (gt s.R i) j)) ?_;simp(disch:=omega)[aK,avu,avv];repeat refine asi ?_
   refine⟨λz=>?_,λz=>?_⟩
   ·refine aa.draw (.qs [0,1,2,3,4,5,6,7,8,9,10,11,12,13,14,15,16,17]<|.l 18 []<|.l 19 []<|.l 20 [c.m+7]<|.nil) (by kernel_rfl) (by kernel_rfl) (by simp) ?_;simp(disch:=omega)[aw,tg,lj,Ri,hj,a0,hb,am,ax,a9,vV hR];repeat refine asi ?_
    refine asl (nV _ _ (ao q2 (by omega)) (ao q1 (by omega))) ?_;simp(disch:=omega)[vV hR];repeat refine asi ?_
    refine asl (nW _ _ (ao q3 (by omega)) (ao (cx q2 q1 (by omega)) (by omega))) ?_;simp(disch:=omega)[vV hR,zF hR,aK];repeat refine asi ?_
    refine⟨i+1,by omega,by omega,?_⟩;rw[nx];exact eP s hR fx (by simp(disch:=omega)[bU,Go.Sv.get]) (by simp[fI]) (by simp[gz]) (by simp[ee])
   ·refine⟨i+1,by omega,by omega,?_⟩;rw[nx,z,Rat.mul_zero,Rat.add_zero];exact eP s hR fx (by simp(disch:=omega)[bU,Go.Sv.get]) (by simp[fI]) (by simp[gz]) (by simp[ee])
  ·obtain rfl:i=c.m:=by omega
   simp only[tT,tH,tS,as8,at3];simp(disch:=omega)[hR,cE hR,vV hR,cP hR];repeat refine asi ?_
   exact⟨_,_,⟨rfl,rfl⟩,rfl,FC c s _,by simp[hR],.inr ⟨by simp,Ct (c:=c) (s:=s) hR⟩⟩
end Go.Proofs
namespace Go.Sx
open Go Go.Sv Go.Pl Go.Proofs Go.Tb Go.Ut Go.Mx Go.Li Go.Dt
def fit(c:Tc)(w:List Int)(k:Nat):Prop:=gt w k=1∨(gt w k=2∧(gt c.low k).has=true)∨(gt w k=3∧(gt c.high k).has=true)∨(gt w k=0∧(gt c.low k).has=false∧(gt c.high k).has=false)
def kQ(w:List Int):Nat->Nat
 | 0=>0
 | k+1=>kQ w k+if gt w k=1 then 1 else 0
theorem Mg(w:List Int):∀k,kQ w k<=k
 | 0=>Nat.le_refl _
 | k+1=>by have:=Mg w k;simp only[kQ];split<;>omega
structure IsB(c:Tc)(K:(Nat->Rat)->Prop)(w:List Int):Prop where
 l:w.length=c.N
 f:∀k,k<c.N->fit c w k
 n:kQ w c.N=c.m
 k:∀z,K z->(∀k,k<c.N->gt w k≠1->z k=0)->∀k,k<c.N->z k=0
def vu(c:Tc)(s:Tb):Prop:=∀k,k<c.N->(∃i,i<c.m∧gt s.basic i=k∧gt s.row k=(i:Int))∨(gt s.row k = -1∧∀i,i<c.m->gt s.basic i≠k)
theorem vu.yS{c:Tc}{K:(Nat->Rat)->Prop}{s:Tb}(h:vu c s)(d:u9 K c.N c.m s.basic s.R)(t:ui c s){i j:Nat}(hi:i<c.m)(hj:j<c.N)(hp:gt (gt s.R i) j≠0):vu c (gH s i j):=λk hk=>by
 have hb:=t.b;have hr:=t.r;have ho:=d.bl i hi;have an:∀k,k<c.m->gt s.basic k≠j:=λk hk e=>hp (by rw[<-e];exact d.z0 i k hi hk);have gb:∀k,k<c.m->gt (gH s i j).basic k=if i=k then j else gt s.basic k:=λk hk=>by show gt (s.basic.set i j) k=_;rw[bG (by omega)]
 have gr:gt (gH s i j).row k=if gt s.basic i=k then -1 else if j=k then(i:Int) else gt s.row k:=by show gt ((s.row.set j i).set (gt s.basic i) (-1)) k=_;rw[bG (by simp;omega),bG (by omega)]
 by_cases e1:j=k
 ·subst e1;refine .inl ⟨i,hi,by rw[gb i hi,if_pos rfl],by rw[gr,if_neg (an i hi),if_pos rfl]⟩
 ·by_cases e2:gt s.basic i=k
  ·refine .inr ⟨by rw[gr,if_pos e2],λq hq=>?_⟩;rw[gb q hq];split
   ·exact e1
   ·rename_i e3;exact λe=>e3 (d.inj i q hi hq (by rw[e2,e]))
  ·rcases h k hk with⟨q,hq,g1,g2⟩ | ⟨g1,g2⟩
   ·refine .inl ⟨q,hq,?_,by rw[gr,if_neg e2,if_neg e1,g2]⟩;rw[gb q hq,if_neg (λe=>e2 (by rw[e];exact g1)),g1]
   ·refine .inr ⟨by rw[gr,if_neg e2,if_neg e1,g1],λq hq=>?_⟩;rw[gb q hq];split
    ·exact e1
    ·exact g2 q hq
theorem ui.yS{c:Tc}{s:Tb}(t:ui c s){i j:Nat}(hj:j<c.N):ui c (gH s i j) where
 w:=by show(s.wh.set j 1).length=_;rw[avs,t.w]
 x:=t.x
 b:=by show(s.basic.set i j).length=_;rw[avs,t.b]
 r:=by show((s.row.set j i).set (gt s.basic i) (-1)).length=_;rw[avs,avs,t.r]
 R:=by show(tr s i j s.R.length).length=_;rw[B0,t.R]
 Rr k hk:=by
  show(gt (tr s i j s.R.length) k).length=_;rw[nC (by rw[t.R];exact hk)];unfold PX;split
  ·rename_i e;rw[EL,<-e,t.Rr k hk]
  ·split
   ·rw[Ly,t.Rr k hk]
   ·exact t.Rr k hk
 bb k hk:=by
  show gt (s.basic.set i j) k<_;rw[bG (by rw[t.b];exact hk)];split
  ·exact hj
  ·exact t.bb k hk
structure Jj(c:Tc)(K:(Nat->Rat)->Prop)(w:List Int)(s:Tb)(j:Nat):Prop where
 t:ui c s
 d:u9 K c.N c.m s.basic s.R
 r:vu c s
 a:∀k,k<j->gt w k=1->∃i,i<c.m∧gt s.basic i=k
 w:∃t,t<=kQ w j∧∀i,i<c.m->Wd (2200*5^t) (gt s.R i)
def xw(c:Tc)(w:List Int)(k:Nat):Rat:=if gt w k=2 then(gt c.low k).at' else if gt w k=3 then(gt c.high k).at' else 0
def u6(c:Tc)(w:List Int)(x:List Rat)(j:Nat):List Rat:=(ati x.length).map λk=>if k<j∧gt w k≠1 then xw c w k else gt x k
def vb(w wh:List Int)(j:Nat):List Int:=(ati wh.length).map λk=>if k<j then gt w k else gt wh k
@[simp] theorem MD(c:Tc)(w:List Int)(x:List Rat)(j:Nat):(u6 c w x j).length=x.length:=by simp[u6]
@[simp] theorem Md(w wh:List Int)(j:Nat):(vb w wh j).length=wh.length:=by simp[vb]
theorem sV{c:Tc}{s:Tb}(t:ui c s){k:Nat}(hk:k<c.N)(hb:∀i,i<c.m->gt s.basic i≠k):∀i,i<=c.m->gt (uu s c.N i) k=gt s.x k
 | 0,_=>rfl
 | i+1,h=>by simp only[uu];rw[bG (by rw[pZ,t.x];exact hk),if_neg (hb i (by omega))];exact sV t hk hb i (by omega)
theorem MK{c:Tc}{K:(Nat->Rat)->Prop}{s:Tb}(t:ui c s)(d:u9 K c.N c.m s.basic s.R){r i:Nat}(hr:r<c.m)(hi:i<=c.m):aH (λk=>gt (gt s.R r) k*gt (uu s c.N i) k) c.N=aH (λk=>gt (gt s.R r) k*gt s.x k) c.N:=aQ c.N λk hk=>by
 by_cases hb:∃q,q<c.m∧gt s.basic q=k
 ·obtain⟨q,hq,rfl⟩:=hb;rw[d.z0 r q hr hq,avq,avq]
 ·rw[sV t hk (λq hq e=>hb ⟨q,hq,e⟩) i hi]
theorem C7{c:Tc}{K:(Nat->Rat)->Prop}{s:Tb}(t:ui c s)(d:u9 K c.N c.m s.basic s.R):∀i,i<=c.m->∀r,r<i->gt (uu s c.N i) (gt s.basic r)=aH (λk=>gt (gt s.R r) k*gt s.x k) c.N
 | 0,_,r,hr=>by omega
 | i+1,h,r,hr=>by
  have ba:=t.bb r (by omega);simp only[uu];rw[bG (by rw[pZ,t.x];exact ba)];by_cases e:r=i
  ·subst e;rw[if_pos rfl,MK t d (by omega) (by omega)]
  ·rw[if_neg (λq=>e (d.inj i r (by omega) (by omega) q).symm)];exact C7 t d i (by omega) r (by omega)
end Go.Sx

