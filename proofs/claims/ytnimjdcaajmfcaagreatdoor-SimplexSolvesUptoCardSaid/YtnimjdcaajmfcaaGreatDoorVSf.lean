/- A text of the prover's own. -/
import Derived.Test.YtnimjdcaajmfcaaGreatDoorVSq
open List renaming range->ayq,cons_append->ayb,nil_append->aAf,map_set->aAq,length_set->aBI,set_set->aBJ
open Go.Proofs.Tryz renaming f128->aBK,prog->ay9
open Option renaming getD_some->ayj
open Int renaming sign_eq_zero_iff_zero->aBL
open Rat renaming num_eq_zero->aBM,div_mul_cancel->aBN,zero_mul->aBG
set_option maxRecDepth 10000
namespace Go.Sx
open Go Go.Sv Go.Pl Go.Proofs Go.Tb Go.Ut Go.Mx Go.Li Go.Dt
def js(l:List Rat)(y:Rat)(k:Nat):List Rat:=(ayq l.length).map λx=>if x<k then -(gt l x*y) else gt l x
@[simp] theorem zO(l:List Rat)(y:Rat)(k:Nat):(js l y k).length=l.length:=by simp[js]
theorem sH{l:List Rat}{y:Rat}{k x:Nat}(h:x<l.length):gt (js l y k) x=if x<k then -(gt l x*y) else gt l x:=by unfold js;rw[aV _ h]
theorem My(l:List Rat)(y:Rat):js l y 0=l:=bV (by simp) λx h=>by rw[sH (by simpa using h)];simp
theorem A2{l:List Rat}{y:Rat}{k:Nat}(h:k<l.length):(js l y k).set k (-(gt l k*y))=js l y (k+1):=bV (by simp) λx hx=>by
 have hx:x<l.length:=by simpa using hx
 rw[bE (by simpa using hx),sH hx,sH hx];by_cases e:k=x
 ·subst e;simp
 ·rw[if_neg e];by_cases q:x<k
  ·rw[if_pos q,if_pos (by omega)]
  ·rw[if_neg q,if_neg (by omega)]
theorem Mu{l:List Rat}{y:Rat}{k:Nat}(h:k<l.length)(hz:gt l k=0):js l y (k+1)=js l y k:=by
 rw[<-A2 h];refine bV (by simp) λx hx=>?_;have hx:x<l.length:=by simpa using hx
 rw[bE (by simpa using hx),sH hx];by_cases e:k=x
 ·subst e;rw[if_pos rfl,if_neg (by omega),hz];grind
 ·rw[if_neg e]
def lu(l:List Rat)(j out:Nat):List Rat:=((js l (1 / gt l j) l.length).set j 0).set out (1 / gt l j)
@[simp] theorem Hr(l:List Rat)(j out:Nat):(lu l j out).length=l.length:=by simp[lu]
theorem yR{l:List Rat}{j out x:Nat}(h:x<l.length):gt (lu l j out) x=if out=x then 1 / gt l j else if j=x then 0 else -(gt l x*(1 / gt l j)):=by unfold lu;rw[bE (by simpa using h),bE (by simpa using h),sH h,if_pos h]
def mS(o l:List Rat)(f:Rat)(k:Nat):List Rat:=(ayq o.length).map λx=>if x<k then gt o x+f*gt l x else gt o x
@[simp] theorem Qx(o l:List Rat)(f:Rat)(k:Nat):(mS o l f k).length=o.length:=by simp[mS]
theorem rW{o l:List Rat}{f:Rat}{k x:Nat}(h:x<o.length):gt (mS o l f k) x=if x<k then gt o x+f*gt l x else gt o x:=by unfold mS;rw[aV _ h]
theorem Ll(o l:List Rat)(f:Rat):mS o l f 0=o:=bV (by simp) λx h=>by rw[rW (by simpa using h)];simp
theorem Gg{o l:List Rat}{f:Rat}{k:Nat}(h:k<o.length):(mS o l f k).set k (gt o k+f*gt l k)=mS o l f (k+1):=bV (by simp) λx hx=>by
 have hx:x<o.length:=by simpa using hx
 rw[bE (by simpa using hx),rW hx,rW hx];by_cases e:k=x
 ·subst e;simp
 ·rw[if_neg e];by_cases q:x<k
  ·rw[if_pos q,if_pos (by omega)]
  ·rw[if_neg q,if_neg (by omega)]
theorem Mj{o l:List Rat}{f:Rat}{k:Nat}(h:k<o.length)(hz:gt l k=0):mS o l f (k+1)=mS o l f k:=by
 rw[<-Gg h];refine bV (by simp) λx hx=>?_;have hx:x<o.length:=by simpa using hx
 rw[bE (by simpa using hx),rW hx];by_cases e:k=x
 ·subst e;rw[if_pos rfl,if_neg (by omega),hz];grind
 ·rw[if_neg e]
def yE(o l:List Rat)(j:Nat):List Rat:=mS (o.set j 0) l (gt o j) o.length
@[simp] theorem N9(o l:List Rat)(j:Nat):(yE o l j).length=o.length:=by simp[yE]
theorem DK{o l:List Rat}{j x:Nat}(h:x<o.length):gt (yE o l j) x=(if j=x then 0 else gt o x)+gt o j*gt l x:=by unfold yE;rw[rW (by simpa using h),if_pos h,bE (by simpa using h)]
theorem LK{o l:List Rat}{j:Nat}(hz:gt o j=0):yE o l j=o:=bV (by simp) λx h=>by
 have h:x<o.length:=by simpa using h
 rw[DK h,hz];split
 ·rename_i e;rw[<-e,hz];grind
 ·grind
def RK(s:Tb)(i j r x:Nat):List Rat:=if x=i then lu (gt s.R i) j (gt s.basic i) else if x<r then yE (gt s.R x) (lu (gt s.R i) j (gt s.basic i)) j else gt s.R x
def vb(s:Tb)(i j r:Nat):List (List Rat):=(ayq s.R.length).map (RK s i j r)
@[simp] theorem EV(s:Tb)(i j r:Nat):(vb s i j r).length=s.R.length:=by simp[vb]
theorem pY{s:Tb}{i j r x:Nat}(h:x<s.R.length):gt (vb s i j r) x=RK s i j r x:=by unfold vb;rw[aV _ h]
theorem Nl{s:Tb}{i j:Nat}:vb s i j 0=s.R.set i (lu (gt s.R i) j (gt s.basic i)):=bV (by simp) λx hx=>by
 have hx:x<s.R.length:=by simpa using hx
 rw[pY hx,bE (by simpa using hx)];unfold RK;by_cases e:x=i
 ·rw[if_pos e,if_pos e.symm]
 ·rw[if_neg e,if_neg (by omega),if_neg (λq=>e q.symm)]
theorem FI{s:Tb}{i j r:Nat}(h:r<s.R.length)(hr:r=i∨gt (gt s.R r) j=0):vb s i j (r+1)=vb s i j r:=bV (by simp) λx hx=>by
 have hx:x<s.R.length:=by simpa using hx
 rw[pY hx,pY hx];unfold RK;by_cases e:x=i
 ·rw[if_pos e,if_pos e]
 ·rw[if_neg e,if_neg e];by_cases q:x<r
  ·rw[if_pos q,if_pos (by omega)]
  ·rw[if_neg q];by_cases q2:x=r
   ·subst q2;rw[if_pos (by omega),LK (hr.resolve_left e)]
   ·rw[if_neg (by omega)]
theorem Nw{s:Tb}{i j r:Nat}(h:r<s.R.length)(hr:r≠i):(vb s i j r).set r (yE (gt s.R r) (lu (gt s.R i) j (gt s.basic i)) j)=vb s i j (r+1):=bV (by simp) λx hx=>by
 have hx:x<s.R.length:=by simpa using hx
 rw[bE (by simpa using hx),pY hx,pY hx];unfold RK;by_cases e:r=x
 ·subst e;rw[if_pos rfl,if_neg hr,if_pos (by omega)]
 ·rw[if_neg e];by_cases e2:x=i
  ·rw[if_pos e2,if_pos e2]
  ·rw[if_neg e2,if_neg e2];by_cases q:x<r
   ·rw[if_pos q,if_pos (by omega)]
   ·rw[if_neg q,if_neg (by omega)]
def ia(s:Tb)(i j:Nat):Tb:=⟨s.wh.set j 1,s.x,s.basic.set i j,(s.row.set j i).set (gt s.basic i) (-1),vb s i j s.R.length⟩
theorem RE{l:List Rat}{j out W:Nat}(h2:2<=W)(h:Wd W l)(hj:j<l.length):Wd (2*W+1) (lu l j out):=λx hx=>by
 have hx:x<l.length:=by simpa using hx
 have q1:qw (1+W) (1 / gt l j):=mF (mG (k:=1) (x:=1) (mM (by omega)) (by omega)) (h j hj) (by omega);rw[yR hx];split
 ·exact ax q1 (by omega)
 ·split
  ·exact ax (mG (k:=1) (x:=0) (kF _) (by omega)) (by omega)
  ·exact ax (fh (cy (h x hx) q1 (by omega))) (by omega)
end Go.Sx
namespace Go.Proofs
open Go.Sv Go Go.Tb Go.Pl Go.Ut Go.Mx Go.Li Go.Dt Go.Sx
noncomputable def mQ:Code:=aBK.body.getD .skip
theorem aaN(c:Tc)(s:Tb)(hc:qe c)(h:wg c s){W:Nat}(h2:2<=W)(hW:∀i,i<c.m->Wd W (gt s.R i))(hz:5*W<=10000000000){i j:Nat}(hi:i<c.m)(hj:j<c.N){C:Ctx}(fx:∀k∈C.fx,k<c.m+6) :
  aa ay9 C (bh 7 mQ) ⟨147,[(0,.ptr 0 0 0),(1,iv i),(2,iv j),(6,iv (gt s.basic i:Nat))],tT c { s with R:=vb s i j c.m } [some ⟨4,[aS (1 / gt (gt s.R i) j)],false⟩]⟩
   (im ay9 [] [] (sY (tT c s []) [] (λT x=>T=tT c (ia s i j) []∧x=.bM []))):=by
 have h7:=hc.m7;have aI:=hc.ur;have hR:=h.R;have hx:=h.x;have hb:=h.b;have aj:=h.r;have aE:=h.w;have am:=fI (l:=s.basic) (i:=i) (by omega);have ar:=gM (N:=c.N) (m:=c.m) (i:=i) hi;have ay:=h.bb i hi;have Ri:=h.Rr i hi;have tg:=λtl:aC=>fE (C:=s.R) (tl:=tl) (e:=i) (by omega);have lj:=ch (l:=gt s.R i) (i:=j) (by omega);have qj:=hW i hi j (by omega);have q1:qw 1 (1:Rat):=mG (k:=1) (x:=1) (mM (by omega)) (by omega);have qi:qw (1+W) (1 / gt (gt s.R i) j):=mF q1 qj (by omega);have ac:(vb s i j c.m).length=c.m:=by rw[EV,hR]
 simp only[mQ,aBK,ayj,ah,ab];refine aa.go ?_;simp only[tT,tH,tS,ayb,aAf];refine aa.awH (.qs [0,1,2,3,4,5,6,7,8,9,10,11,12,13,14,15,16,17]<|.l 18 [3]<|.qs [19]<|.l 20 [4]<|.qs [21]<|.l 22 [4]<|.nil) ?_;have a4:=cf (l:=s.row) (i:=j) (by omega);have a5:=cf (l:=s.row.set j i) (i:=gt s.basic i) (by simp;omega);have a6:=cf (l:=s.wh) (i:=j) (by omega);simp(disch:=omega)[ac,hi,hj,hb,aj,aE,am,ay,a4,a5,a6,dM,NJ, -aAq];repeat refine awG ?_
 have eT:ia s i j=⟨s.wh.set j 1,s.x,s.basic.set i j,(s.row.set j i).set (gt s.basic i) (-1),vb s i j c.m⟩:=by unfold ia;rw[hR]
 rw[eT];exact⟨_,_,⟨rfl,rfl⟩,rfl,I8 c ⟨s.wh.set j 1,s.x,s.basic.set i j,(s.row.set j i).set (gt s.basic i) (-1),vb s i j c.m⟩ _,by simp,.inr ⟨by simp,Dr (c:=c) (s:=⟨s.wh.set j 1,s.x,s.basic.set i j,(s.row.set j i).set (gt s.basic i) (-1),vb s i j c.m⟩) ac⟩⟩
theorem acd(c:Tc)(s:Tb)(hc:qe c)(h:wg c s){W:Nat}(h2:2<=W)(hW:∀i,i<c.m->Wd W (gt s.R i))(hz:5*W<=10000000000){i j:Nat}(hi:i<c.m)(hj:j<c.N){C:Ctx}(fx:∀k∈C.fx,k<c.m+6) :
  aa ay9 C (bh 5 mQ) ⟨147,[(0,.ptr 0 0 0),(1,iv i),(2,iv j),(6,iv (gt s.basic i:Nat)),(7,.view (i+6) 0 c.N),(8,.ptr (c.m+6) 0 0)],tT c { s with R:=s.R.set i ((js (gt s.R i) (1 / gt (gt s.R i) j) c.N).set j 0) } [some ⟨4,[aS (1 / gt (gt s.R i) j)],false⟩]⟩
   (im ay9 [] [] (sY (tT c s []) [] (λT x=>T=tT c (ia s i j) []∧x=.bM []))):=by
 have h7:=hc.m7;have aI:=hc.ur;have hR:=h.R;have hx:=h.x;have hb:=h.b;have aj:=h.r;have aE:=h.w;have am:=fI (l:=s.basic) (i:=i) (by omega);have ar:=gM (N:=c.N) (m:=c.m) (i:=i) hi;have ay:=h.bb i hi;have Ri:=h.Rr i hi;have tg:=λtl:aC=>fE (C:=s.R) (tl:=tl) (e:=i) (by omega);have lj:=ch (l:=gt s.R i) (i:=j) (by omega);have qj:=hW i hi j (by omega);have q1:qw 1 (1:Rat):=mG (k:=1) (x:=1) (mM (by omega)) (by omega);have qi:qw (1+W) (1 / gt (gt s.R i) j):=mF q1 qj (by omega);have aJ:(js (gt s.R i) (1 / gt (gt s.R i) j) c.N).length=c.N:=by rw[zO,Ri]
 have aW:((js (gt s.R i) (1 / gt (gt s.R i) j) c.N).set j 0).set (gt s.basic i) (1 / gt (gt s.R i) j)=lu (gt s.R i) j (gt s.basic i):=by unfold lu;rw[Ri]
 have aY:((js (gt s.R i) (1 / gt (gt s.R i) j) c.N).set j 0).length=c.N:=by rw[aBI,aJ]
 generalize (js (gt s.R i) (1 / gt (gt s.R i) j) c.N).set j 0=l0 at *;have aK:=λtl:aC=>fE (C:=s.R.set i l0) (tl:=tl) (e:=i) (by simp;omega);rw[show gt (s.R.set i l0) i=l0 by rw[bE (by omega),if_pos rfl]]at aK;have aM:=λtl:aC=>yV (C:=s.R.set i l0) (tl:=tl) (e:=i) (r:=lu (gt s.R i) j (gt s.basic i)) (by simp;omega);rw[aBJ,<-Nl,<-aW]at aM;have aQ:(s.R.set i l0).length=c.m:=by simpa using hR
 have lk:=ch (l:=l0) (i:=gt s.basic i) (by omega);have p3:=RE (out:=gt s.basic i) h2 (hW i hi) (show j<(gt s.R i).length by omega);have az:(lu (gt s.R i) j (gt s.basic i)).length=c.N:=by rw[Hr,Ri]
 refine aa.cutAt 2 (λst=>st=⟨147,[(0,.ptr 0 0 0),(1,iv i),(2,iv j),(6,iv (gt s.basic i:Nat))],tT c { s with R:=vb s i j c.m } [some ⟨4,[aS (1 / gt (gt s.R i) j)],false⟩]⟩) ?_ ?_
 rotate_left 1
 ·rintro st rfl;have:=aaN c s hc h h2 hW hz hi hj fx;simp only[mQ,aBK,ayj,ah,ab]at this ⊢;exact this
 simp only[mQ,aBK,ayj,ah,ab,aN,aL];simp only[tT,tH,tS,ayb,aAf];simp(disch:=omega)[aK,cN aQ,aY,lk,cx,aM, -aAq];repeat refine awG ?_
 refine aa.bB (ι:=Nat) (λr=>⟨147,[(0,.ptr 0 0 0),(1,iv i),(2,iv j),(6,iv (gt s.basic i:Nat)),(7,.view (i+6) 0 c.N),(8,.ptr (c.m+6) 0 0),(71,.view 5 0 c.m),(72,iv c.m),(73,iv r)],tT c { s with R:=vb s i j r } [some ⟨4,[aS (1 / gt (gt s.R i) j)],false⟩]⟩)
  (λr=>r<=c.m) (λr=>c.m - r) 0 (by simp) ?_ ?_
 ·simp[aP,tT,tH,tS,ao]
 ·rintro r hr;have ac:(vb s i j r).length=c.m:=by rw[EV,hR]
  by_cases ag:r<c.m
  ·have aR:=gM (N:=c.N) (m:=c.m) (i:=r) ag;have er:gt (vb s i j r) r=if r=i then lu (gt s.R i) j (gt s.basic i) else gt s.R r:=by
    rw[pY (by omega)];unfold RK;rw[if_neg (show ¬r<r by omega)]
   have au:=λtl:aC=>fE (C:=vb s i j r) (tl:=tl) (e:=r) (by omega);have Rr:=h.Rr r ag;by_cases e:r=i
   ·subst e;rw[if_pos rfl]at er;rw[er]at au;have aA:=ch (l:=lu (gt s.R r) j (gt s.basic r)) (i:=j) (by omega);simp only[tT,tH,tS,ayb,aAf];simp(disch:=omega)[ag,aR,au,ac,xK ac,BM ac,az,aA,hj];repeat refine awG ?_
    refine⟨r+1,by omega,by omega,?_⟩;rw[FI (by omega) (.inl rfl)];exact fv { s with R:=vb s r j r } ac fx (by simp(disch:=omega)[bY,Go.Sv.get,aD]) (by simp[fj]) (by simp[gK];omega) (by simp[eA])
   ·rw[if_neg e]at er;rw[er]at au;have aA:=ch (l:=gt s.R r) (i:=j) (by omega);have e':¬(r:Int)=i:=by omega
    simp only[tT,tH,tS,ayb,aAf];simp(disch:=omega)[ag,aR,au,ac,xK ac,BM ac,Rr,aA,hj,e'];repeat refine awG ?_
    have nx:=Nw (s:=s) (i:=i) (j:=j) (r:=r) (by omega) e;have gi:∀y,gt ((vb s i j r).set r y) i=lu (gt s.R i) j (gt s.basic i):=λy=>by rw[bE (by omega),if_neg e,pY (by omega)];unfold RK;rw[if_pos rfl]
    clear e e' er am ar aK aM aW tg;refine awI (iy (gt (gt s.R r) j)) ?_;simp(disch:=omega)[aD,aBL,aBM];repeat refine awG ?_
    refine⟨λz=>?_,λz=>?_⟩
    ·refine⟨r+1,by omega,by omega,?_⟩;rw[FI (by omega) (.inr z)];exact fv { s with R:=vb s i j r } ac fx (by simp(disch:=omega)[bY,Go.Sv.get]) (by simp[fj]) (by simp[gK];omega) (by simp[eA])
    ·simp(disch:=omega)[au,Rr,aA,hj];repeat refine awG ?_
     refine aa.le (Qn (tl:=[some ⟨4,[aS (1 / gt (gt s.R i) j)],false⟩,some ⟨4,[aS (gt (gt s.R r) j)],false⟩]) (tl':=[some ⟨4,[aS (1 / gt (gt s.R i) j)],false⟩,some ⟨4,[aS (gt (gt s.R r) j)],false⟩])
      (fr':=[(0,.ptr 0 0 0),(1,iv i),(2,iv j),(6,iv (gt s.basic i:Nat)),(7,.view (i+6) 0 c.N),(8,.ptr (c.m+6) 0 0),(71,.view 5 0 c.m),(72,iv c.m),(73,iv r),(12,.view (r+6) 0 c.N),(13,.ptr (c.m+7) 0 0),(95,iv c.N),(96,iv (0:Nat))]) { s with R:=vb s i j r } ac ag fx ?_ (by simp[]) (by simp[gK];omega) (by simp[eA])) ?_
     ·simp[bY,Go.Sv.get]
     have oN:((gt s.R r).set j 0).length=c.N:=by rw[aBI,Rr]
     have qf:=hW r ag j (by omega);have qo:∀k,k<c.N->qw W (gt ((gt s.R r).set j 0) k):=λk hk=>by
      rw[bE (by omega)];split
      ·exact ax (mG (k:=1) (x:=0) (kF _) (by omega)) (by omega)
      ·exact hW r ag k (by omega)
     rw[show yE (gt s.R r) (lu (gt s.R i) j (gt s.basic i)) j=mS ((gt s.R r).set j 0) (lu (gt s.R i) j (gt s.basic i)) (gt (gt s.R r) j) c.N by unfold yE;rw[Rr]]at nx;generalize lu (gt s.R i) j (gt s.basic i)=l2 at *;generalize (gt s.R r).set j 0=o0 at *;generalize vb s i j r=R0 at *;generalize gt (gt s.R r) j=f at *;generalize 1 / gt (gt s.R i) j=inv at *;clear hx hb aj aE Ri aJ aY aQ Rr aA lj hR hr au aR;refine aa.bB (ι:=Nat) (λk=>⟨147,[(0,.ptr 0 0 0),(1,iv i),(2,iv j),(6,iv (gt s.basic i:Nat)),(7,.view (i+6) 0 c.N),(8,.ptr (c.m+6) 0 0),(71,.view 5 0 c.m),(72,iv c.m),(73,iv r),(12,.view (r+6) 0 c.N),(13,.ptr (c.m+7) 0 0),(95,iv c.N),(96,iv k)],
      tT c { s with R:=R0.set r (mS o0 l2 f k) } [some ⟨4,[aS inv],false⟩,some ⟨4,[aS f],false⟩]⟩)
      (λk=>k<=c.N) (λk=>c.N - k) 0 (by simp) ?_ ?_
     ·rw[Ll];simp[aP,tT,tH,tS,ao,bY,Go.Sv.get]
     ·rintro k hk;have aT:(mS o0 l2 f k).length=c.N:=by rw[Qx,oN]
      have ae:(R0.set r (mS o0 l2 f k)).length=c.m:=by rw[aBI,ac]
      have aF:=λtl:aC=>fE (C:=R0.set r (mS o0 l2 f k)) (tl:=tl) (e:=r) (by rw[ae];exact ag);rw[show ∀y,gt (R0.set r y) r=y from λy=>by rw[bE (by rw[ac];exact ag),if_pos rfl]]at aF;have aB:=λtl:aC=>fE (C:=R0.set r (mS o0 l2 f k)) (tl:=tl) (e:=i) (by rw[ae];exact hi);rw[gi]at aB;by_cases ai:k<c.N
      ·have lp:=ch (l:=l2) (i:=k) (by omega);have lo:=ch (l:=mS o0 l2 f k) (i:=k) (by omega);rw[rW (by omega),if_neg (show ¬k<k by omega)]at lo;have qp:=p3 k (by omega);have aU:=qo k ai;have ts:=λtl:aC=>yV (C:=R0.set r (mS o0 l2 f k)) (tl:=tl) (e:=r) (r:=mS o0 l2 f (k+1)) (by rw[ae];exact ag);have aZ:=Gg (o:=o0) (l:=l2) (f:=f) (k:=k) (by omega);have ak:=Mj (o:=o0) (l:=l2) (f:=f) (k:=k) (by omega);rw[aBJ,<-aZ]at ts;have al:(R0.set r (mS o0 l2 f (k+1))).length=c.m:=by rw[aBI,ac]
       generalize hA:mS o0 l2 f k=ad at *;generalize hB:R0.set r ad=Rk at *;clear ac oN;simp only[tT,tH,tS,ayb,aAf];simp(disch:=omega)[ai,aB,az,lp];repeat refine awG ?_
       refine awI (iy _) ?_;simp(disch:=omega)[aD,aBL,aBM];repeat refine awG ?_
       refine⟨λz2=>?_,λz2=>?_⟩
       ·refine aa.draw (.qs [0,1,2,3,4,5,6,7,8,9,10]<|.l 11 []<|.l 12 []<|.qs [13]<|.l 14 [r+6]<|.nil) (by kernel_rfl) (by kernel_rfl) (by simp) ?_;simp(disch:=omega)[ai,aB,aF,az,aT,lp,lo,xK ae];repeat refine awG ?_
        refine awI (pA _ _ (aq qf (by omega)) (aq qp (by omega))) ?_;simp(disch:=omega)[aF];repeat refine awG ?_
        refine awI (pX _ _ (aq aU (by omega)) (aq (cy qf qp (by omega)) (by omega))) ?_;simp(disch:=omega)[ai,aF,aT,lo,cx,ts,aD, -aAq];repeat refine awG ?_
        refine⟨k+1,by omega,by omega,?_⟩;rw[aZ];exact fv { s with R:=R0.set r (mS o0 l2 f (k+1)) } al fx (by simp(disch:=omega)[bY,Go.Sv.get]) (by simp[fj]) (by simp[gK];omega) (by simp[eA])
       ·refine⟨k+1,by omega,by omega,?_⟩;rw[ak z2,hB];exact fv { s with R:=Rk } ae fx (by simp(disch:=omega)[bY,Go.Sv.get]) (by simp[fj]) (by simp[gK];omega) (by simp[eA])
      ·obtain rfl:k=c.N:=by omega
       simp only[tT,tH,tS,ayb,aAf];simp(disch:=omega)[];repeat refine awG ?_
       refine⟨r+1,by omega,by omega,?_⟩;rw[nx];exact fv { s with R:=vb s i j (r+1) } (by rw[<-nx];exact ae) fx (by simp(disch:=omega)[bY,Go.Sv.get,aD]) (by simp[fj]) (by simp[gK];omega) (by simp[eA])
  ·obtain rfl:r=c.m:=by omega
   simp only[tT,tH,tS,ayb,aAf];simp(disch:=omega)[];repeat refine awG ?_
   exact⟨rfl,by simp[bY,Go.Sv.get],ao _,.inl rfl⟩
theorem qT(c:Tc)(s:Tb)(hc:qe c)(h:wg c s){W:Nat}(h2:2<=W)(hW:∀i,i<c.m->Wd W (gt s.R i))(hz:5*W<=10000000000){i j:Nat}(hi:i<c.m)(hj:j<c.N)(hp:gt (gt s.R i) j≠0) :
  kZ ay9 128 [.ptr 0 0 0,iv i,iv j] (tT c s []) [] (λT x=>T=tT c (ia s i j) []∧x=.bM []):=by
 have h7:=hc.m7;have aI:=hc.ur;have hR:=h.R;have hx:=h.x;have hb:=h.b;have aj:=h.r;have aE:=h.w;have am:=fI (l:=s.basic) (i:=i) (by omega);have ar:=gM (N:=c.N) (m:=c.m) (i:=i) hi;have ay:=h.bb i hi;have Ri:=h.Rr i hi;have tg:=λtl:aC=>fE (C:=s.R) (tl:=tl) (e:=i) (by omega);have lj:=ch (l:=gt s.R i) (i:=j) (by omega);have qj:=hW i hi j (by omega);have q1:qw 1 (1:Rat):=mG (k:=1) (x:=1) (mM (by omega)) (by omega);have qi:qw (1+W) (1 / gt (gt s.R i) j):=mF q1 qj (by omega);have aJ:(js (gt s.R i) (1 / gt (gt s.R i) j) c.N).length=c.N:=by rw[zO,Ri]
 refine iG Tryz.func128 rfl (by simp) (λC hC=>?_);have fx:=qm hR hC;show aa _ _ mQ _ (im _ [] _ _);refine aa.cutAt 5 (λst=>st=⟨147,[(0,.ptr 0 0 0),(1,iv i),(2,iv j),(6,iv (gt s.basic i:Nat)),(7,.view (i+6) 0 c.N),(8,.ptr (c.m+6) 0 0)],
  tH c s++aX (eH (s.R.set i (js (gt s.R i) (1 / gt (gt s.R i) j) c.N))++[some ⟨4,[aS (1 / gt (gt s.R i) j)],false⟩]) i (some ⟨4,da ((js (gt s.R i) (1 / gt (gt s.R i) j) c.N).map aS) j (.agg [.val (.bool false),.val (.slice none 0 0),.val (.bool false),.val (.slice none 0 0)]),false⟩)⟩) ?_ ?_
 rotate_left 1
 ·rintro st rfl;refine aa.le (Qn (tl':=[some ⟨4,[aS (1 / gt (gt s.R i) j)],false⟩]) (fr':=[(0,.ptr 0 0 0),(1,iv i),(2,iv j),(6,iv (gt s.basic i:Nat)),(7,.view (i+6) 0 c.N),(8,.ptr (c.m+6) 0 0)]) { s with R:=s.R.set i (js (gt s.R i) (1 / gt (gt s.R i) j) c.N) } (by simpa using hR) hi fx (by simp[bY,Go.Sv.get]) (by simp[]) (by simp[gK];omega) (by simp[eA])) ?_;simp only[aBJ];exact acd c s hc h h2 hW hz hi hj fx
 simp only[mQ,aBK,ayj,aN,aL];simp only[tT,tH,tS,ayb,aAf];simp(disch:=omega)[am,ar,hb];repeat refine awG ?_
 refine aa.jB (.d 9<|.qs [1,2,3,4]<|.p 0<|.p 5<|.qs [6,7,8]<|.b (.l 10 [c.m+6]<|.qs [11]<|.nil)) (by kernel_rfl) (by kernel_rfl) (by simp) ?_;simp(disch:=omega)[hj,tg,lj,Ri];repeat refine awG ?_
 refine ff (Du 1 (by omega) (by omega)) (by simp) ?_;simp(disch:=omega)[hR];repeat refine awG ?_
 refine ff (pB _ _ (aq q1 (by omega)) (aq qj (by omega))) (by simp) ?_;simp(disch:=omega)[cN hR,cV hR];repeat refine awG ?_
 generalize hinv:1 / gt (gt s.R i) j=inv at *;refine aa.bB (ι:=Nat) (λk=>⟨147,[(0,.ptr 0 0 0),(1,iv i),(2,iv j),(6,iv (gt s.basic i:Nat)),(7,.view (i+6) 0 c.N),(8,.ptr (c.m+6) 0 0),(39,iv c.N),(40,iv k)],tT c { s with R:=s.R.set i (js (gt s.R i) inv k) } [some ⟨4,[aS inv],false⟩]⟩)
  (λk=>k<=c.N) (λk=>c.N - k) 0 (by simp) ?_ ?_
 ·rw[My];have e0:s.R.set i (gt s.R i)=s.R:=bV (by simp) λx hx=>by
   rw[bE (by simpa using hx)];split
   ·rename_i e;rw[e]
   ·rfl
  rw[e0];simp[aP,tT,tH,tS,ao]
 ·rintro k hk;have al:(s.R.set i (js (gt s.R i) inv k)).length=c.m:=by simpa using hR
  have av:=λtl:aC=>fE (C:=s.R.set i (js (gt s.R i) inv k)) (tl:=tl) (e:=i) (by omega);rw[show gt (s.R.set i (js (gt s.R i) inv k)) i=js (gt s.R i) inv k by rw[bE (by omega),if_pos rfl]]at av;have nl:(js (gt s.R i) inv k).length=c.N:=by rw[zO,Ri]
  simp only[tT,tH,tS,ayb,aAf];by_cases ai:k<c.N
  ·have lk:=ch (l:=js (gt s.R i) inv k) (i:=k) (by omega);rw[sH (by omega),if_neg (by omega)]at lk;have qk:=hW i hi k (by omega);have ts:=λtl:aC=>yV (C:=s.R.set i (js (gt s.R i) inv k)) (tl:=tl) (e:=i) (r:=js (gt s.R i) inv (k+1)) (by omega);rw[aBJ,<-A2 (by omega)]at ts;simp(disch:=omega)[ai,av,nl,lk];repeat refine awG ?_
   refine awI (iy (gt (gt s.R i) k)) ?_;simp(disch:=omega)[aD,aBL,aBM];repeat refine awG ?_
   refine⟨λz=>?_,λz=>?_⟩
   ·refine aa.draw (.qs [0,1,2,3,4,5,6]<|.l 7 []<|.l 8 []<|.qs [9]<|.l 10 [i+6]<|.nil) (by kernel_rfl) (by kernel_rfl) (by simp) ?_;simp(disch:=omega)[ai,av,nl,lk,cN al];repeat refine awG ?_
    refine awI (pA _ _ (aq qk (by omega)) (aq qi (by omega))) ?_;simp(disch:=omega)[av];repeat refine awG ?_
    refine awI (jK _) ?_;simp(disch:=omega)[ai,av,nl,lk,cx,ts,aD, -aAq];repeat refine awG ?_
    rw[A2 (by omega)];exact⟨k+1,by omega,by omega,fv { s with R:=s.R.set i (js (gt s.R i) inv (k+1)) } (by simpa using hR) fx (by simp(disch:=omega)[bY,Go.Sv.get]) (by simp[fj]) (by simp[gK];omega) (by simp[eA])⟩
   ·refine⟨k+1,by omega,by omega,?_⟩;rw[Mu (by omega) z];exact fv { s with R:=s.R.set i (js (gt s.R i) inv k) } (by simpa using hR) fx (by simp(disch:=omega)[bY,Go.Sv.get]) (by simp[fj]) (by simp[gK];omega) (by simp[eA])
  ·obtain rfl:k=c.N:=by omega
   have lk:=ch (l:=js (gt s.R i) inv c.N) (i:=j) (by omega);simp(disch:=omega)[av,nl,lk];repeat refine awG ?_
   exact⟨rfl,by simp[bY,Go.Sv.get],ao _,.inl rfl⟩
end Go.Proofs
namespace Go.Sx
open Go Go.Sv Go.Pl Go.Proofs Go.Tb Go.Ut Go.Mx Go.Li Go.Dt
structure xH(K:(Nat->Rat)->Prop)(N m:Nat)(basic:List Nat)(R:List (List Rat)):Prop where
 bl:∀i,i<m->gt basic i<N
 inj:∀i k,i<m->k<m->gt basic i=gt basic k->i=k
 z0:∀r i,r<m->i<m->gt (gt R r) (gt basic i)=0
 sat:∀z,K z↔∀r,r<m->z (gt basic r)=aG (λk=>gt (gt R r) k*z k) N
theorem Q0{l:List Rat}{N j out:Nat}(hl:l.length=N)(hj:j<N)(ho:out<N)(hz:gt l out=0)(hp:gt l j≠0)(z:Nat->Rat) :
  aG (λk=>gt (lu l j out) k*z k) N=1 / gt l j*(z out - aG (λk=>gt l k*z k) N)+z j:=by
 have a7:out≠j:=λe=>hp (by rw[<-e];exact hz);have e1:aG (λk=>gt (lu l j out) k*z k) N=aG (λk=>1 / gt l j*((if k=out then z out else 0) - gt l k*z k)+1 / gt l j*(if k=j then gt l j*z j else 0)) N:=aO N λk hk=>by
  rw[yR (by omega)];by_cases q1:out=k
  ·subst q1;rw[if_pos rfl,if_pos rfl,if_neg a7,hz];grind
  ·have a1:¬k=out:=λq=>q1 q.symm;by_cases q2:j=k
   ·subst q2;simp only[if_neg q1,if_neg a1,if_true];grind
   ·have a2:¬k=j:=λq=>q2 q.symm;simp only[if_neg q1,if_neg a1,if_neg q2,if_neg a2];grind
 rw[e1,jY,jS,jS,kN,cA (p:=out) N ho (λk _ hk=>if_neg hk),cA (p:=j) N hj (λk _ hk=>if_neg hk),if_pos rfl,if_pos rfl];have e2:1 / gt l j*(gt l j*z j)=z j:=by rw[<-Rat.mul_assoc,aBN hp,Rat.one_mul]
 rw[e2]
theorem J6{o l:List Rat}{N j:Nat}(ho:o.length=N)(hj:j<N)(z:Nat->Rat) :
  aG (λk=>gt (yE o l j) k*z k) N=aG (λk=>gt o k*z k) N - gt o j*z j+gt o j*aG (λk=>gt l k*z k) N:=by
 have e1:aG (λk=>gt (yE o l j) k*z k) N=aG (λk=>(gt o k*z k - (if k=j then gt o j*z j else 0))+gt o j*(gt l k*z k)) N:=aO N λk hk=>by
  rw[DK (by omega)];by_cases q:j=k
  ·subst q;rw[if_pos rfl,if_pos rfl];grind
  ·rw[if_neg q,if_neg (λq'=>q q'.symm)];grind
 rw[e1,jY,kN,jS,cA (p:=j) N hj (λk _ hk=>if_neg hk),if_pos rfl]
theorem xH.AT{K:(Nat->Rat)->Prop}{N m:Nat}{s:Tb}(h:xH K N m s.basic s.R)(hb:s.basic.length=m)(hR:s.R.length=m)(hr:∀r,r<m->(gt s.R r).length=N){i j:Nat}(hi:i<m)(hj:j<N)(hp:gt (gt s.R i) j≠0) :
  xH K N m (ia s i j).basic (ia s i j).R:=by
 have a8:=h.z0 i i hi hi;have ho:=h.bl i hi;have an:∀k,k<m->gt s.basic k≠j:=λk hk e=>hp (by rw[<-e];exact h.z0 i k hi hk);have gb:∀k,k<m->gt (ia s i j).basic k=if i=k then j else gt s.basic k:=λk hk=>by show gt (s.basic.set i j) k=_;rw[bE (by omega)]
 have gR:∀r,r<m->gt (ia s i j).R r=if r=i then lu (gt s.R i) j (gt s.basic i) else yE (gt s.R r) (lu (gt s.R i) j (gt s.basic i)) j:=λr af=>by
  show gt (vb s i j s.R.length) r=_;rw[pY (by omega)];unfold RK;split
  ·rfl
  ·rw[if_pos (by omega)]
 have bo:∀k,k<m->k≠i->gt s.basic i≠gt s.basic k:=λk hk a9 e=>a9 (h.inj i k hi hk e).symm;have pz:∀k,k<m->gt (lu (gt s.R i) j (gt s.basic i)) (if i=k then j else gt s.basic k)=0:=λk hk=>by
  have ap:=h.bl k hk;by_cases e:i=k
  ·rw[if_pos e,yR (by rw[hr i hi];exact hj),if_neg (an i hi),if_pos rfl]
  ·rw[if_neg e,yR (by rw[hr i hi];exact ap),if_neg (bo k hk (λq=>e q.symm)),if_neg (λq=>an k hk q.symm),h.z0 i k hi hk];grind
 refine⟨λk hk=>?_,λk k' hk ap e=>?_,λr k af hk=>?_,λz=>?_⟩
 ·rw[gb k hk];split
  ·exact hj
  ·exact h.bl k hk
 ·rw[gb k hk,gb k' ap]at e;by_cases e1:i=k
  ·rw[if_pos e1]at e;by_cases e2:i=k'
   ·omega
   ·rw[if_neg e2]at e;exact absurd e.symm (an k' ap)
  ·rw[if_neg e1]at e;by_cases e2:i=k'
   ·rw[if_pos e2]at e;exact absurd e (an k hk)
   ·rw[if_neg e2]at e;exact h.inj k k' hk ap e
 ·rw[gb k hk,gR r af];split
  ·exact pz k hk
  ·have ap:=h.bl k hk;rw[DK (by rw[hr r af];split;exact hj;exact ap),pz k hk];by_cases e:i=k
   ·rw[if_pos e,if_pos rfl];grind
   ·rw[if_neg e,if_neg (λq=>an k hk q.symm),h.z0 r k af hk];grind
 ·have sp:=Q0 (hr i hi) hj ho a8 hp z;have inv1:1 / gt (gt s.R i) j≠0:=λe=>by
   have:1 / gt (gt s.R i) j*gt (gt s.R i) j=1:=aBN hp;rw[e]at this;grind
  rw[h.sat z];constructor
  ·intro hs r af;have aH:=hs i hi;rw[gb r af,gR r af];by_cases e:r=i
   ·rw[if_pos e.symm,if_pos e,sp,aH];grind
   ·rw[if_neg (λq=>e q.symm),if_neg e,J6 (hr r af) hj z,sp,aH,hs r af];grind
  ·intro hs;have aH:=hs i hi;rw[gb i hi,gR i hi,if_pos rfl,if_pos rfl,sp]at aH;have a0:z (gt s.basic i)=aG (λk=>gt (gt s.R i) k*z k) N:=by
    have:1 / gt (gt s.R i) j*(z (gt s.basic i) - aG (λk=>gt (gt s.R i) k*z k) N)=0:=by grind
    rcases Rat.mul_eq_zero.1 this with q | q
    ·exact absurd q inv1
    ·grind
   intro r af;by_cases e:r=i
   ·rw[e];exact a0
   ·have h1:=hs r af;rw[gb r af,gR r af,if_neg (λq=>e q.symm),if_neg e,J6 (hr r af) hj z,sp,a0]at h1;rw[h1];grind
end Go.Sx
set_option maxRecDepth 10000
namespace Go.Sx
open Go Go.Sv Go.Pl Go.Proofs Go.Tb Go.Ut Go.Mx Go.Li Go.Dt
def dN(c:Tc)(s:Tb)(j i:Nat):Rat:=gt c.cost j+aG (λi=>gt c.cost (gt s.basic i)*gt (gt s.R i) j) i
theorem C2(c:Tc)(s:Tb)(j:Nat):dN c s j 0=gt c.cost j:=by unfold dN;simp only[aG];grind
theorem CU(c:Tc)(s:Tb)(j i:Nat):dN c s j (i+1)=dN c s j i+gt c.cost (gt s.basic i)*gt (gt s.R i) j:=by unfold dN;simp only[aG];grind
theorem ED{c:Tc}{s:Tb}{j W V:Nat}(hj:Proofs.qw V (gt c.cost j)):∀i,(∀k,k<i->Proofs.qw V (gt c.cost (gt s.basic k))∧Proofs.qw W (gt (gt s.R k) j))->1<=V->Proofs.qw (V+i*(W+V+1)) (dN c s j i)
 | 0,_,_=>by rw[C2];exact ax hj (by omega)
 | i+1,h,h1=>by rw[CU];have hi:=h i (by omega);refine ax (kX (ED hj i (λk hk=>h k (by omega)) h1) (cy hi.1 hi.2 (by omega))) ?_;rw[Nat.add_mul];omega
end Go.Sx
namespace Go.Proofs
open Go.Sv Go Go.Tb Go.Pl Go.Ut Go.Mx Go.Li Go.Dt Go.Sx
theorem vI(c:Tc)(s:Tb)(hc:qe c)(h:wg c s){W V:Nat}(hW:∀i,i<c.m->Wd W (gt s.R i))(hV:Wd V c.cost)(h1:1<=V)(hz:V+7*(W+V+1)<=10000000000){j:Nat}(hj:j<c.N) :
  kZ ay9 85 [.ptr 0 0 0,iv j] (tT c s []) [] (λT x=>T=tT c s []∧x=aS (dN c s j c.m)):=by
 have h7:=hc.m7;have aI:=hc.ur;have a3:=hc.co;have hR:=h.R;have hb:=h.b;have lc:=ch (l:=c.cost) (i:=j) (by omega);refine gV Tryz.func85 rfl (by simp) (λC hC=>?_);have fx:=qm hR hC;simp only[tT,tH,tS,ayb,aAf];simp(disch:=omega)[a3,lc,hj,hR,xK hR,BM hR];repeat refine awG ?_
 refine aa.bB (ι:=Nat) (λi=>⟨53,[(0,.ptr 0 0 0),(1,iv j),(4,.ptr (c.m+6) 0 0),(5,.ptr (c.m+7) 0 0),(18,.view 5 0 c.m),(19,iv c.m),(20,iv i)],
  tT c s [some ⟨4,[.agg [.val (.bool false),.val (.slice none 0 0),.val (.bool false),.val (.slice none 0 0)]],false⟩,some ⟨4,[aS (dN c s j i)],false⟩]⟩)
  (λi=>i<=c.m) (λi=>c.m - i) 0 (by simp) ?_ ?_
 ·rw[C2];exact⟨rfl,by simp[bY,Go.Sv.get],ao _,.inl rfl⟩
 ·rintro i hi;by_cases aw:i<c.m
  ·have ar:=gM (N:=c.N) (m:=c.m) (i:=i) aw;have tg:=λtl:aC=>fE (C:=s.R) (tl:=tl) (e:=i) (by omega);have Ri:=h.Rr i aw;have lj:=ch (l:=gt s.R i) (i:=j) (by omega);have am:=fI (l:=s.basic) (i:=i) (by omega);have ay:=h.bb i aw;have ba:=ch (l:=c.cost) (i:=gt s.basic i) (by omega);have q1:=hW i aw j (by omega);have q2:=hV (gt s.basic i) (by omega);have q3:=ED (hV j (by omega)) i (λk hk=>⟨hV (gt s.basic k) (by have:=h.bb k (by omega);omega),hW k (by omega) j (by have:=h.Rr k (by omega);omega)⟩) h1;have q4:V+i*(W+V+1)<=V+7*(W+V+1):=by
    have:=Nat.mul_le_mul_right (W+V+1) (show i<=7 by omega);omega
   have nx:=CU c s j i;generalize dN c s j i=d at *;simp only[tT,tH,tS,ayb,aAf];simp(disch:=omega)[aw,ar,tg,lj,Ri,hj];repeat refine awG ?_
   refine awI (iy (gt (gt s.R i) j)) ?_;simp(disch:=omega)[aD,aBL,aBM];repeat refine awG ?_
   refine⟨λz=>?_,λz=>?_⟩
   ·refine aa.draw (.qs [0,1,2,3,4,5,6,7,8,9,10,11,12,13,14,15,16,17]<|.l 18 []<|.l 19 []<|.l 20 [c.m+7]<|.nil) (by kernel_rfl) (by kernel_rfl) (by simp) ?_;simp(disch:=omega)[aw,tg,lj,Ri,hj,a3,hb,am,ay,ba,xK hR];repeat refine awG ?_
    refine awI (pA _ _ (aq q2 (by omega)) (aq q1 (by omega))) ?_;simp(disch:=omega)[xK hR];repeat refine awG ?_
    refine awI (pX _ _ (aq q3 (by omega)) (aq (cy q2 q1 (by omega)) (by omega))) ?_;simp(disch:=omega)[xK hR,BM hR,aD];repeat refine awG ?_
    refine⟨i+1,by omega,by omega,?_⟩;rw[nx];exact fv s hR fx (by simp(disch:=omega)[bY,Go.Sv.get]) (by simp[fj]) (by simp[gK]) (by simp[eA])
   ·refine⟨i+1,by omega,by omega,?_⟩;rw[nx,z,Rat.mul_zero,Rat.add_zero];exact fv s hR fx (by simp(disch:=omega)[bY,Go.Sv.get]) (by simp[fj]) (by simp[gK]) (by simp[eA])
  ·obtain rfl:i=c.m:=by omega
   simp only[tT,tH,tS,ayb,aAf];simp(disch:=omega)[hR,cN hR,xK hR,cV hR];repeat refine awG ?_
   exact⟨_,_,⟨rfl,rfl⟩,rfl,I8 c s _,by simp[hR],.inr ⟨by simp,Dr (c:=c) (s:=s) hR⟩⟩
end Go.Proofs
namespace Go.Sx
open Go Go.Sv Go.Pl Go.Proofs Go.Tb Go.Ut Go.Mx Go.Li Go.Dt
def fit(c:Tc)(w:List Int)(k:Nat):Prop:=gt w k=1∨(gt w k=2∧(gt c.low k).has=true)∨(gt w k=3∧(gt c.high k).has=true)∨(gt w k=0∧(gt c.low k).has=false∧(gt c.high k).has=false)
def eG(w:List Int):Nat->Nat
 | 0=>0
 | k+1=>eG w k+if gt w k=1 then 1 else 0
theorem tL(w:List Int):∀k,eG w k<=k
 | 0=>Nat.le_refl _
 | k+1=>by have:=tL w k;simp only[eG];split<;>omega
structure HQ(c:Tc)(K:(Nat->Rat)->Prop)(w:List Int):Prop where
 l:w.length=c.N
 f:∀k,k<c.N->fit c w k
 n:eG w c.N=c.m
 k:∀z,K z->(∀k,k<c.N->gt w k≠1->z k=0)->∀k,k<c.N->z k=0
def xM(c:Tc)(s:Tb):Prop:=∀k,k<c.N->(∃i,i<c.m∧gt s.basic i=k∧gt s.row k=(i:Int))∨(gt s.row k = -1∧∀i,i<c.m->gt s.basic i≠k)
theorem xM.AT{c:Tc}{K:(Nat->Rat)->Prop}{s:Tb}(h:xM c s)(d:xH K c.N c.m s.basic s.R)(t:wg c s){i j:Nat}(hi:i<c.m)(hj:j<c.N)(hp:gt (gt s.R i) j≠0):xM c (ia s i j):=λk hk=>by
 have hb:=t.b;have hr:=t.r;have ho:=d.bl i hi;have an:∀k,k<c.m->gt s.basic k≠j:=λk hk e=>hp (by rw[<-e];exact d.z0 i k hi hk);have gb:∀k,k<c.m->gt (ia s i j).basic k=if i=k then j else gt s.basic k:=λk hk=>by show gt (s.basic.set i j) k=_;rw[bE (by omega)]
 have gr:gt (ia s i j).row k=if gt s.basic i=k then -1 else if j=k then(i:Int) else gt s.row k:=by show gt ((s.row.set j i).set (gt s.basic i) (-1)) k=_;rw[bE (by simp;omega),bE (by omega)]
 by_cases e1:j=k
 ·subst e1;refine .inl ⟨i,hi,by rw[gb i hi,if_pos rfl],by rw[gr,if_neg (an i hi),if_pos rfl]⟩
 ·by_cases e2:gt s.basic i=k
  ·refine .inr ⟨by rw[gr,if_pos e2],λq hq=>?_⟩;rw[gb q hq];split
   ·exact e1
   ·rename_i e3;exact λe=>e3 (d.inj i q hi hq (by rw[e2,e]))
  ·rcases h k hk with⟨q,hq,g1,g2⟩ | ⟨g1,g2⟩
   ·refine .inl ⟨q,hq,?_,by rw[gr,if_neg e2,if_neg e1,g2]⟩;rw[gb q hq,if_neg (λe=>e2 (by rw[e];exact g1)),g1]
   ·refine .inr ⟨by rw[gr,if_neg e2,if_neg e1,g1],λq hq=>?_⟩;rw[gb q hq];split
    ·exact e1
    ·exact g2 q hq
theorem wg.AT{c:Tc}{s:Tb}(t:wg c s){i j:Nat}(hj:j<c.N):wg c (ia s i j) where
 w:=by show(s.wh.set j 1).length=_;rw[aBI,t.w]
 x:=t.x
 b:=by show(s.basic.set i j).length=_;rw[aBI,t.b]
 r:=by show((s.row.set j i).set (gt s.basic i) (-1)).length=_;rw[aBI,aBI,t.r]
 R:=by show(vb s i j s.R.length).length=_;rw[EV,t.R]
 Rr k hk:=by
  show(gt (vb s i j s.R.length) k).length=_;rw[pY (by rw[t.R];exact hk)];unfold RK;split
  ·rename_i e;rw[Hr,<-e,t.Rr k hk]
  ·split
   ·rw[N9,t.Rr k hk]
   ·exact t.Rr k hk
 bb k hk:=by
  show gt (s.basic.set i j) k<_;rw[bE (by rw[t.b];exact hk)];split
  ·exact hj
  ·exact t.bb k hk
structure MM(c:Tc)(K:(Nat->Rat)->Prop)(w:List Int)(s:Tb)(j:Nat):Prop where
 t:wg c s
 d:xH K c.N c.m s.basic s.R
 r:xM c s
 a:∀k,k<j->gt w k=1->∃i,i<c.m∧gt s.basic i=k
 w:∃t,t<=eG w j∧∀i,i<c.m->Wd (2200*5^t) (gt s.R i)
def xw(c:Tc)(w:List Int)(k:Nat):Rat:=if gt w k=2 then(gt c.low k).at' else if gt w k=3 then(gt c.high k).at' else 0
def wq(c:Tc)(w:List Int)(x:List Rat)(j:Nat):List Rat:=(ayq x.length).map λk=>if k<j∧gt w k≠1 then xw c w k else gt x k
def xa(w wh:List Int)(j:Nat):List Int:=(ayq wh.length).map λk=>if k<j then gt w k else gt wh k
@[simp] theorem M7(c:Tc)(w:List Int)(x:List Rat)(j:Nat):(wq c w x j).length=x.length:=by simp[wq]
@[simp] theorem Ps(w wh:List Int)(j:Nat):(xa w wh j).length=wh.length:=by simp[xa]
theorem vK{c:Tc}{s:Tb}(t:wg c s){k:Nat}(hk:k<c.N)(hb:∀i,i<c.m->gt s.basic i≠k):∀i,i<=c.m->gt (xz s c.N i) k=gt s.x k
 | 0,_=>rfl
 | i+1,h=>by simp only[xz];rw[bE (by rw[si,t.x];exact hk),if_neg (hb i (by omega))];exact vK t hk hb i (by omega)
theorem M6{c:Tc}{K:(Nat->Rat)->Prop}{s:Tb}(t:wg c s)(d:xH K c.N c.m s.basic s.R){r i:Nat}(hr:r<c.m)(hi:i<=c.m):aG (λk=>gt (gt s.R r) k*gt (xz s c.N i) k) c.N=aG (λk=>gt (gt s.R r) k*gt s.x k) c.N:=aO c.N λk hk=>by
 by_cases hb:∃q,q<c.m∧gt s.basic q=k
 ·obtain⟨q,hq,rfl⟩:=hb;rw[d.z0 r q hr hq,aBG,aBG]
 ·rw[vK t hk (λq hq e=>hb ⟨q,hq,e⟩) i hi]
theorem GP{c:Tc}{K:(Nat->Rat)->Prop}{s:Tb}(t:wg c s)(d:xH K c.N c.m s.basic s.R):∀i,i<=c.m->∀r,r<i->gt (xz s c.N i) (gt s.basic r)=aG (λk=>gt (gt s.R r) k*gt s.x k) c.N
 | 0,_,r,hr=>by omega
 | i+1,h,r,hr=>by
  have bc:=t.bb r (by omega);simp only[xz];rw[bE (by rw[si,t.x];exact bc)];by_cases e:r=i
  ·subst e;rw[if_pos rfl,M6 t d (by omega) (by omega)]
  ·rw[if_neg (λq=>e (d.inj i r (by omega) (by omega) q).symm)];exact GP t d i (by omega) r (by omega)
end Go.Sx

