/- A text of the prover's own. -/
import Derived.Test.YtmghjkkjaolpgaaGreatDoorWIz
import Derived.Test.YtmghjkkjaolpgaaGreatDoorWIm
import Derived.Test.YtmghjkkjaolpgaaGreatDoorWIr
import Derived.Test.YtmghjkkjaolpgaaGreatDoorWIi
open List renaming map_set→amw,cons_append→aly,nil_append→anu
set_option maxRecDepth 10000
set_option maxHeartbeats 2000000
namespace Go.Ps
open Go Go.Sv Go.Pl Go.Proofs Go.Tb Go.Ut Go.Li
theorem qU(k:Nat)(l:List dL)(i:Nat)(c:dL):SV.mb k ((l.map cw).set i (cw c))=true:=by rw[←amw];simp[-amw]
theorem J7{w:Wk}{i:Nat}(h:i<w.gr.length)(hg:gt w.gr i=false):w.gr.set i false=w.gr:=by
 have:=C4 h
 rwa [hg]at this
end Go.Ps
namespace Go.Proofs
open Go.Sv Go Go.Tb Go.Pl Go.Ut Go.Li Go.Ps
theorem BP{n m u:Nat}{w:Wk}{mx:Bool}(G:bh n m u w)(hn:w.no=false)(hu8:8≤u)(hu:u≤2400)(h7:n≤7)(h7':m≤7){i:Nat}(hi:i<m)(hg:gt w.gr i=false) :
  ji Tryz.prog 122 [.ptr 0 0 0,iv i] (aE mx w) [5] (iu mx (gj w i)):=by
 have hr:i<w.rows.length:=by rw[G.S.nr];exact hi
 have hr':i<w.gr.length:=by rw[G.S.gr];exact hi
 have l1:=eU hr;have l2:=bI hr';obtain⟨gc7,gr7⟩:=dr G;have pA:=lD hu8 (ay w.gc);have pB:=iY hu8 (ay w.gc) (ay w.gr);have tA:=mh hu (c:=ay w.gc) (by omega);have tB:=iL hu (c:=ay w.gc) (r:=ay w.gr) (by omega) (by omega);have wr:=G.W.ro i hr;have q1:bQ (gt w.rows i).low.at':=ah wr.1 (by omega);have q2:bQ (gt w.rows i).high.at':=ah wr.2 (by omega);have wt:=G.W.te i hr;have hbt:=G.S.te i hi;have tl7:(gt w.rows i).ab.length≤7:=by have:=ic hbt;omega
 have hb:∀k,k<(gt w.rows i).ab.length→0≤(gt (gt w.rows i).ab k).aI∧(gt (gt w.rows i).ab k).aI.toNat<w.ae.length:=fun k hk=>by
  obtain⟨a,b,_⟩:=eF G hi hk;exact⟨a,by rw[G.S.nc];exact b⟩
 have hcw:∀j,j<w.ae.length→qw (qB u (ay w.gc) (ay w.gr)) (gt w.ae j).low.at'∧qw (qB u (ay w.gc) (ay w.gr)) (gt w.ae j).high.at':=fun j hj=>⟨(G.W.co j hj).1,(G.W.co j hj).2.1⟩
 have rw':=x7 (B:=qB u (ay w.gc) (ay w.gr)) (A:=qA u (ay w.gc)) (by omega) hcw (fun k hk=>⟨wt k hk,(hb k hk).2⟩);have se:=@CZ w i;have sno:=J7 hr' hg;generalize hA:qA u (ay w.gc)=A at *;generalize hB:qB u (ay w.gc) (ay w.gr)=B at *;have rok:∀k,k≤(gt w.rows i).ab.length→bQ (bS w.ae (gt w.rows i).ab k).lo.at'∧bQ (bS w.ae (gt w.rows i).ab k).hi.at':=fun k hk=>by
  have hk7:(B+A+1)*k≤(B+A+1)*7:=Nat.mul_le_mul_left _ (by omega);obtain⟨a,b⟩:=rw' k hk;exact⟨ah a (by omega),ah b (by omega)⟩
 refine bP Tryz.func122 rfl (by simp) (fun C hC=>?_);have hC:C.fx=[0,1,2,3,4]:=hC;rw[se];clear se rw';obtain⟨r,er⟩:∃r,gt w.rows i=r:=⟨_,rfl⟩;rw[er]at rok l1 q1 q2 wt hbt tl7 hb wr ⊢;obtain⟨S,eS⟩:∃S,bS w.ae r.ab r.ab.length=S:=⟨_,rfl⟩;have qS:=rok r.ab.length (Nat.le_refl _);rw[eS]at qS;rw[eS];refine aa.cutAt 4 (fun st=>st=⟨200,[(0,.ptr 0 0 0),(1,iv i),(5,.ptr 6 0 0),(6,.ptr 7 0 0)],aE mx w++[some ⟨13,[cQ r],false⟩,some ⟨10,[tm S],false⟩]⟩) ?_ ?_
 ·simp only[ar,aq,aE,aQ];simp(disch:=omega)[hr,l1];repeat refine akI ?_
  refine akK (C7) ?_;simp;refine akK (rU 0) ?_;simp;refine aa.bG (ι:=Nat) (fun k=>⟨200,[(0,.ptr 0 0 0),(1,iv i),(5,.ptr 6 0 0),(6,.ptr 7 0 0),(7,iv k)],aE mx w++[some ⟨13,[cQ r],false⟩,some ⟨10,[tm (bS w.ae r.ab k)],false⟩]⟩)
   (fun k=>k≤r.ab.length) (fun k=>r.ab.length - k) 0 (by omega) ?_ ?_
  ·simp[aw,hC,aE,aQ,bS,zB];done
  rintro k hk;simp only[aE,aQ,aly,anu];by_cases az:k<r.ab.length
  ·have lc:=gx (r:=r) az;have ln:=iC (r:=r) az;obtain⟨b1,b2⟩:=hb k az;have wtk:=wt k az;have rs:bS w.ae r.ab (k+1)=dA (bS w.ae r.ab k) (gt w.ae (gt r.ab k).aI.toNat).low (gt w.ae (gt r.ab k).aI.toNat).high (gt r.ab k).num:=rfl;have qk:=rok k hk;generalize gt r.ab k=t at *;obtain⟨j,ej⟩:∃j:Nat,t.aI=j:=⟨t.aI.toNat,by omega⟩;have ej':t.aI.toNat=j:=by omega
   rw[ej']at rs b2;have lj:=dq b2;obtain⟨w1,w2⟩:=hcw j b2;generalize gt w.ae j=c at *;simp(disch:=omega)[az,lc,ln];repeat refine akI ?_
   refine aa.akJ (.qs [0,1,2,3,4,5,6,7,8,9,10,11]<|.l 12 []<|.l 13 [8,1000000]<|.nil) ?_;simp(disch:=omega)[az,lc,ln,ej,b2,lj];repeat refine akI ?_
   refine aa.akJ (.qs [0,1,2,3,4,5,6,7,8,9]<|.l 10 []<|.l 11 [7]<|.nil) ?_;simp(disch:=omega)[az,lc,ln,ej,b2,lj];repeat refine akI ?_
   refine akK (wJ (bS w.ae r.ab k) c.low c.high t.num qk (ah w1 (by omega)) (ah w2 (by omega)) (ah wtk (by omega)) ⟨ah (bM w1 wtk (by omega)) (by omega),ah (bM w2 wtk (by omega)) (by omega)⟩) ?_;simp;exact⟨k+1,by omega,by omega,Le.bA (by simp(disch:=omega)[aw,hC,aN,aE,aQ,rs])⟩
  ·obtain rfl:k=r.ab.length:=by omega
   simp(disch:=omega)[eS];repeat refine akI ?_
   simp[aw,hC,aE,aQ];done
 rintro st rfl;simp only[ao,al];refine aa.cutAt 2 (fun st=>st=⟨200,[(0,.ptr 0 0 0),(1,iv i),(5,.ptr 6 0 0),(6,.ptr 7 0 0),(9,bZ (aD S.lo r.high)),(10,bZ (aD r.low S.hi))],aE mx w++[some ⟨13,[cQ r],false⟩,some ⟨10,[tm S],false⟩]⟩) ?_ ?_
 ·simp only[ar,aq,aE,aQ];simp;refine akK (iQ S.lo r.high qS.1 q2) ?_;simp;refine akK (iQ r.low S.hi q1 qS.2) ?_;simp;simp[aw,hC,aE,aQ];done
 rintro st rfl;simp only[ao,al];by_cases hx:aD S.lo r.high=true∨aD r.low S.hi=true
 ·rw[if_pos hx];refine aa.go ?_;simp only[aE,aQ];have fin:iu mx (true,dw (da w true) i) (aE mx (da w true)) (bZ true):=⟨rfl,_,rfl,rfl,fun h=>by cases h⟩;by_cases h1:aD S.lo r.high=true
  ·simp[h1];exact⟨_,_,fin,by simp,by simp[aE,aQ,dX,da],by simp[aE],.inr ⟨by simp,by simp[aE,eP,aQ]⟩⟩
  ·have h2:aD r.low S.hi=true:=by rcases hx with h | h;exact absurd h h1;exact h
   simp[h1,h2];exact⟨_,_,fin,by simp,by simp[aE,aQ,dX,da],by simp[aE],.inr ⟨by simp,by simp[aE,eP,aQ]⟩⟩
 rw[if_neg hx];have hx1:aD S.lo r.high=false:=by cases h:aD S.lo r.high<;>simp_all
 have hx2:aD r.low S.hi=false:=by cases h:aD r.low S.hi<;>simp_all
 rw[hx1,hx2];clear hx hx1 hx2;refine aa.cutAt 3 (fun st=>st=⟨200,[(0,.ptr 0 0 0),(1,iv i),(5,.ptr 6 0 0),(6,.ptr 7 0 0),(11,bZ (alike S.lo r.high)),(12,bZ (alike S.hi r.low))],aE mx w++[some ⟨13,[cQ r],false⟩,some ⟨10,[tm S],false⟩]⟩) ?_ ?_
 ·simp only[ar,aq,aE,aQ];simp;refine akK (oM S.lo r.high qS.1 q2) ?_;simp;refine akK (oM S.hi r.low qS.2 q1) ?_;simp;simp[aw,hC,aE,aQ];done
 rintro st rfl;simp only[ao,al];by_cases hx:alike S.lo r.high=true∨alike S.hi r.low=true
 ·rw[if_pos hx];refine aa.go ?_;simp only[aE,aQ];have hor:∀b c:Bool,(b=true∨c=true)→(b=true∨(b=false∧c=true)):=by decide
  have hx:=hor _ _ hx;generalize alike S.lo r.high=least at *;generalize alike S.hi r.low=most at *;clear qS eS rok;rcases hx with hL | ⟨hL,hM⟩
  ·subst hL;simp[];refine aa.bG (ι:=Nat) (fun k=>⟨200,[(0,.ptr 0 0 0),(1,iv i),(5,.ptr 6 0 0),(11,bZ true),(13,iv k)],aE mx (ey w (aT true r.ab w.ae k))++[some ⟨13,[cQ r],false⟩,some ⟨10,[tm S],false⟩]⟩)
    (fun k=>k≤r.ab.length) (fun k=>r.ab.length - k) 0 (by omega) ?_ ?_
   ·simp[aw,hC,aE,aQ,ey,aT];done
   rintro k hk;have fl:=jr true r.ab w.ae k;simp only[aE,aQ,ey,aly,anu];by_cases az:k<r.ab.length
   ·have lc:=gx (r:=r) az;have ln:=iC (r:=r) az;obtain⟨b1,b2⟩:=hb k az;have fs:aT true r.ab w.ae (k+1)=(aT true r.ab w.ae k).set (gt r.ab k).aI.toNat (if decide (0<(gt r.ab k).num)=true then⟨(gt (aT true r.ab w.ae k) (gt r.ab k).aI.toNat).name,(gt (aT true r.ab w.ae k) (gt r.ab k).aI.toNat).whole,(gt (aT true r.ab w.ae k) (gt r.ab k).aI.toNat).low,(gt (aT true r.ab w.ae k) (gt r.ab k).aI.toNat).low,(gt (aT true r.ab w.ae k) (gt r.ab k).aI.toNat).cost⟩ else⟨(gt (aT true r.ab w.ae k) (gt r.ab k).aI.toNat).name,(gt (aT true r.ab w.ae k) (gt r.ab k).aI.toNat).whole,(gt (aT true r.ab w.ae k) (gt r.ab k).aI.toNat).high,(gt (aT true r.ab w.ae k) (gt r.ab k).aI.toNat).high,(gt (aT true r.ab w.ae k) (gt r.ab k).aI.toNat).cost⟩):=rfl;generalize gt r.ab k=t at *;obtain⟨j,ej⟩:∃j:Nat,t.aI=j:=⟨t.aI.toNat,by omega⟩;have ej':t.aI.toNat=j:=by omega
    rw[ej']at fs b2;have hj:j<(aT true r.ab w.ae k).length:=by rw[fl];exact b2
    have lj:=dq hj;generalize aT true r.ab w.ae k=l at *;generalize gt l j=c at *;simp(disch:=omega)[az,lc,ln];repeat refine akI ?_
    refine aa.akJ (.qs [0,1,2,3,4,5,6,7,8,9,10,11]<|.l 12 []<|.l 13 [8,1000000]<|.nil) ?_;simp(disch:=omega)[az,lc,ln,ej,hj,lj];repeat refine akI ?_
    refine akK (wU t.num) ?_;by_cases hp:0<t.num
    ·rw[if_pos (by simp[hp])]at fs;simp(disch:=omega)[hp];repeat refine akI ?_
     refine aa.akJ (.qs [0,1,2,3,4,5,6,7,8,9,10,11]<|.l 12 [1]<|.nil) ?_;simp(disch:=omega)[az,lc,ln,ej,hj,lj,DP,kc];repeat refine akI ?_
     exact⟨k+1,by omega,by omega,Le.bA (by simp(disch:=omega)[aw,hC,aN,aE,aQ,ey,fs,qU])⟩
    ·rw[if_neg (by simp[hp])]at fs;simp(disch:=omega)[hp];repeat refine akI ?_
     refine aa.akJ (.qs [0,1,2,3,4,5,6,7,8,9,10,11]<|.l 12 [1]<|.nil) ?_;simp(disch:=omega)[az,lc,ln,ej,hj,lj,Dw,kc];repeat refine akI ?_
     exact⟨k+1,by omega,by omega,Le.bA (by simp(disch:=omega)[aw,hC,aN,aE,aQ,ey,fs,qU])⟩
   ·obtain rfl:k=r.ab.length:=by omega
    simp(disch:=omega)[hr',l2,eQ];repeat refine akI ?_
    have fin:iu mx (true,dw (ey w (aT true r.ab w.ae r.ab.length)) i) _ _:=iu.same;exact⟨_,_,fin,by simp,by simp[aE,aQ,dX,ey,dw],by simp[aE],.inr ⟨by simp,by simp[aE,eP,aQ]⟩⟩
  ·subst hL;simp[hM];refine aa.bG (ι:=Nat) (fun k=>⟨200,[(0,.ptr 0 0 0),(1,iv i),(5,.ptr 6 0 0),(11,bZ false),(13,iv k)],aE mx (ey w (aT false r.ab w.ae k))++[some ⟨13,[cQ r],false⟩,some ⟨10,[tm S],false⟩]⟩)
    (fun k=>k≤r.ab.length) (fun k=>r.ab.length - k) 0 (by omega) ?_ ?_
   ·simp[aw,hC,aE,aQ,ey,aT];done
   rintro k hk;have fl:=jr false r.ab w.ae k;simp only[aE,aQ,ey,aly,anu];by_cases az:k<r.ab.length
   ·have lc:=gx (r:=r) az;have ln:=iC (r:=r) az;obtain⟨b1,b2⟩:=hb k az;have fs:aT false r.ab w.ae (k+1)=(aT false r.ab w.ae k).set (gt r.ab k).aI.toNat (if decide (0<(gt r.ab k).num)=false then⟨(gt (aT false r.ab w.ae k) (gt r.ab k).aI.toNat).name,(gt (aT false r.ab w.ae k) (gt r.ab k).aI.toNat).whole,(gt (aT false r.ab w.ae k) (gt r.ab k).aI.toNat).low,(gt (aT false r.ab w.ae k) (gt r.ab k).aI.toNat).low,(gt (aT false r.ab w.ae k) (gt r.ab k).aI.toNat).cost⟩ else⟨(gt (aT false r.ab w.ae k) (gt r.ab k).aI.toNat).name,(gt (aT false r.ab w.ae k) (gt r.ab k).aI.toNat).whole,(gt (aT false r.ab w.ae k) (gt r.ab k).aI.toNat).high,(gt (aT false r.ab w.ae k) (gt r.ab k).aI.toNat).high,(gt (aT false r.ab w.ae k) (gt r.ab k).aI.toNat).cost⟩):=rfl;generalize gt r.ab k=t at *;obtain⟨j,ej⟩:∃j:Nat,t.aI=j:=⟨t.aI.toNat,by omega⟩;have ej':t.aI.toNat=j:=by omega
    rw[ej']at fs b2;have hj:j<(aT false r.ab w.ae k).length:=by rw[fl];exact b2
    have lj:=dq hj;generalize aT false r.ab w.ae k=l at *;generalize gt l j=c at *;simp(disch:=omega)[az,lc,ln];repeat refine akI ?_
    refine aa.akJ (.qs [0,1,2,3,4,5,6,7,8,9,10,11]<|.l 12 []<|.l 13 [8,1000000]<|.nil) ?_;simp(disch:=omega)[az,lc,ln,ej,hj,lj];repeat refine akI ?_
    refine akK (wU t.num) ?_;by_cases hp:0<t.num
    ·rw[if_neg (by simp[hp])]at fs;simp(disch:=omega)[hp];repeat refine akI ?_
     refine aa.akJ (.qs [0,1,2,3,4,5,6,7,8,9,10,11]<|.l 12 [1]<|.nil) ?_;simp(disch:=omega)[az,lc,ln,ej,hj,lj,Dw,kc];repeat refine akI ?_
     exact⟨k+1,by omega,by omega,Le.bA (by simp(disch:=omega)[aw,hC,aN,aE,aQ,ey,fs,qU])⟩
    ·rw[if_pos (by simp[hp])]at fs;simp(disch:=omega)[hp];repeat refine akI ?_
     refine aa.akJ (.qs [0,1,2,3,4,5,6,7,8,9,10,11]<|.l 12 [1]<|.nil) ?_;simp(disch:=omega)[az,lc,ln,ej,hj,lj,DP,kc];repeat refine akI ?_
     exact⟨k+1,by omega,by omega,Le.bA (by simp(disch:=omega)[aw,hC,aN,aE,aQ,ey,fs,qU])⟩
   ·obtain rfl:k=r.ab.length:=by omega
    simp(disch:=omega)[hr',l2,eQ];repeat refine akI ?_
    have fin:iu mx (true,dw (ey w (aT false r.ab w.ae r.ab.length)) i) _ _:=iu.same;exact⟨_,_,fin,by simp,by simp[aE,aQ,dX,ey,dw],by simp[aE],.inr ⟨by simp,by simp[aE,eP,aQ]⟩⟩
 rw[if_neg hx];have hx1:alike S.lo r.high=false:=by cases h:alike S.lo r.high<;>simp_all
 have hx2:alike S.hi r.low=false:=by cases h:alike S.hi r.low<;>simp_all
 rw[hx1,hx2];clear hx hx1 hx2;refine aa.cutAt 3 (fun st=>st=⟨200,[(0,.ptr 0 0 0),(1,iv i),(5,.ptr 6 0 0),(6,.ptr 7 0 0),(16,bZ (vV S.lo r.low))],aE mx w++[some ⟨13,[cQ r],false⟩,some ⟨10,[tm S],false⟩]⟩) ?_ ?_
 ·simp only[ar,aq,aE,aQ];by_cases h1:r.low.has=true
  ·by_cases h2:S.lo.has=true
   ·simp(disch:=omega)[h1,h2,du h1,du h2];repeat refine akI ?_
    refine akK (uI S.lo.at' r.low.at' qS.1 q1) ?_;simp;by_cases h3:r.low.at'≤S.lo.at'
    ·simp[aw,hC,aE,aQ,vV,h1,h2,h3];done
    ·simp[aw,hC,aE,aQ,vV,h1,h2,h3];done
   ·have h2':S.lo.has=false:=by simpa using h2
    simp(disch:=omega)[h1,h2'];repeat refine akI ?_
    simp[aw,hC,aE,aQ,vV,h1,h2'];done
  ·have h1':r.low.has=false:=by simpa using h1
   simp(disch:=omega)[h1'];repeat refine akI ?_
   simp[aw,hC,aE,aQ,vV,h1'];done
 rintro st rfl;simp only[ao,al];refine aa.cutAt 2 (fun st=>st=⟨200,[(0,.ptr 0 0 0),(1,iv i),(16,bZ (vV S.lo r.low)),(18,bZ (wM S.hi r.high))],aE mx w⟩) ?_ ?_
 ·simp only[ar,aq,aE,aQ];by_cases h1:r.high.has=true
  ·by_cases h2:S.hi.has=true
   ·simp(disch:=omega)[h1,h2,du h1,du h2];repeat refine akI ?_
    refine akK (uI S.hi.at' r.high.at' qS.2 q2) ?_;simp;by_cases h3:S.hi.at'≤r.high.at'
    ·simp[aw,hC,aE,aQ,wM,h1,h2,h3];done
    ·simp[aw,hC,aE,aQ,wM,h1,h2,h3];done
   ·have h2':S.hi.has=false:=by simpa using h2
    simp(disch:=omega)[h1,h2'];repeat refine akI ?_
    simp[aw,hC,aE,aQ,wM,h1,h2'];done
  ·have h1':r.high.has=false:=by simpa using h1
   simp(disch:=omega)[h1'];repeat refine akI ?_
   simp[aw,hC,aE,aQ,wM,h1'];done
 rintro st rfl;simp only[ao,al];refine aa.go ?_;simp only[aE,aQ];by_cases h1:vV S.lo r.low=true
 ·by_cases h2:wM S.hi r.high=true
  ·rw[if_pos ⟨h1,h2⟩];simp(disch:=omega)[h1,h2,hr',l2,eQ];repeat refine akI ?_
   have fin:iu mx (true,dw w i) _ _:=iu.same;exact⟨_,_,fin,by simp,by simp[aE,aQ,dX,dw],by simp[aE],.inr ⟨by simp,by simp[aE,eP,aQ]⟩⟩
  ·rw[if_neg (fun q=>h2 q.2)];simp(disch:=omega)[h1,h2,hr',l2,eQ,sno];repeat refine akI ?_
   have fin:iu mx (false,w) _ _:=iu.same;exact⟨_,_,fin,by simp,by simp[aE,aQ,dX],by simp[aE],.inr ⟨by simp,by simp[aE,eP,aQ]⟩⟩
 ·rw[if_neg (fun q=>h1 q.1)];simp(disch:=omega)[h1,hr',l2,eQ,sno];repeat refine akI ?_
  have fin:iu mx (false,w) _ _:=iu.same;exact⟨_,_,fin,by simp,by simp[aE,aQ,dX],by simp[aE],.inr ⟨by simp,by simp[aE,eP,aQ]⟩⟩
end Go.Proofs
set_option maxRecDepth 10000
set_option maxHeartbeats 2000000
namespace Go.Ps
open Go Go.Sv Go.Pl Go.Proofs Go.Tb Go.Ut Go.Li
theorem xq{a b:Bo}(h:alike a b=true):a.has=true∧b.has=true:=by
 simp only[alike,Bool.and_eq_true]at h;exact h.1
theorem U5{x y:Rat}(hx:x≠0)(hy:y≠0) : -(x / y)≠0:=fun h=>hx (by
 have h1:x / y=0:=by rw[←Rat.neg_neg (x / y),h];rfl
 have h2:=Rat.div_mul_cancel (a:=x) hy;rw[h1,Rat.zero_mul]at h2;exact h2.symm)
end Go.Ps
namespace Go.Proofs
open Go.Sv Go Go.Tb Go.Pl Go.Ut Go.Li Go.Ps
theorem Ew{n m u:Nat}{w:Wk}{mx:Bool}(G:bh n m u w)(hu8:8≤u)(hu:u≤2400)(h7:n≤7)(h7':m≤7){i:Nat}(hi:i<m) :
  ji Tryz.prog 123 [.ptr 0 0 0,iv i] (aE mx w) [5] (iu mx (iB w i)):=by
 have hr:i<w.rows.length:=by rw[G.S.nr];exact hi
 have hr':i<w.gr.length:=by rw[G.S.gr];exact hi
 have l1:=eU hr;have l2:=bI hr';obtain⟨gc7,gr7⟩:=dr G;have pA:=lD hu8 (ay w.gc);have pB:=iY hu8 (ay w.gc) (ay w.gr);have tA:=mh hu (c:=ay w.gc) (by omega);have tB:=iL hu (c:=ay w.gc) (r:=ay w.gr) (by omega) (by omega);have wr:=G.W.ro i hr;have q1:bQ (gt w.rows i).low.at':=ah wr.1 (by omega);have q2:bQ (gt w.rows i).high.at':=ah wr.2 (by omega);have pn:=@Di w i;refine bP Tryz.func123 rfl (by simp) (fun C hC=>?_);have hC:C.fx=[0,1,2,3,4]:=hC;have fin0:iu mx (false,w) (aE mx w) (bZ false):=iu.same;refine aa.cutAt 3 (fun st=>st=⟨138,[(0,.ptr 0 0 0),(1,iv i),(5,.ptr 6 0 0),(6,bZ (alike (gt w.rows i).low (gt w.rows i).high))],aE mx w++[some ⟨13,[cQ (gt w.rows i)],false⟩]⟩) ?_ ?_
 ·simp only[ar,aq,aE,aQ];simp(disch:=omega)[hr,l1];repeat refine akI ?_
  refine akK (oM (gt w.rows i).low (gt w.rows i).high q1 q2) ?_;simp;simp[aw,hC];done
 rintro st rfl;simp only[ao,al];by_cases hl:(gt w.rows i).ab.length=2
 case neg =>
  rw[pn (by simp[hl])];have hl':¬((gt w.rows i).ab.length:Int)=2:=by omega
  refine aa.go ?_;simp only[aE,aQ];refine aa.akJ (.qs [0,1,2,3,4,5,6,7,8,9,10,11,12,13,14,15,16,17,18,19,20,21,22,23,24,25,26,27,28,29,30,31,32,33,34,35]<|.nil) ?_;simp(disch:=omega)[hl'];repeat refine akI ?_
  exact⟨_,_,fin0,by simp,by simp[aE,aQ,dX],by simp[aE],.inr ⟨by simp,by simp[aE,eP,aQ]⟩⟩
 by_cases ha:alike (gt w.rows i).low (gt w.rows i).high=true
 case neg =>
  rw[pn (by simp[ha])];have ha':alike (gt w.rows i).low (gt w.rows i).high=false:=by simpa using ha
  have hl':((gt w.rows i).ab.length:Int)=2:=by omega
  refine aa.go ?_;simp only[aE,aQ];refine aa.akJ (.qs [0,1,2,3,4,5,6,7,8,9,10,11,12,13,14,15,16,17,18,19,20,21,22,23,24,25,26,27,28,29,30,31,32,33,34,35]<|.nil) ?_;simp(disch:=omega)[hl',ha'];repeat refine akI ?_
  exact⟨_,_,fin0,by simp,by simp[aE,aQ,dX],by simp[aE],.inr ⟨by simp,by simp[aE,eP,aQ]⟩⟩
 have hl':((gt w.rows i).ab.length:Int)=2:=by omega
 obtain⟨a0,a1,a2⟩:=eF G hi (k:=0) (by omega);obtain⟨b0,b1,b2⟩:=eF G hi (k:=1) (by omega);have hab:=(gw (G.S.te i hi) 1 (by omega)).2.2.2 0 (by omega);have wa:=G.W.te i hr 0 (by omega);have wb:=G.W.te i hr 1 (by omega);have lac:=gx (r:=gt w.rows i) (k:=0) (by omega);have lbc:=gx (r:=gt w.rows i) (k:=1) (by omega);have lan:=iC (r:=gt w.rows i) (k:=0) (by omega);have lbn:=iC (r:=gt w.rows i) (k:=1) (by omega);have e0:iB w i=(if(gt w.rows i).ab.length=2∧alike (gt w.rows i).low (gt w.rows i).high=true∧(gt w.ae (gt (gt w.rows i).ab 0).aI.toNat).whole=false∧(gt w.ae (gt (gt w.rows i).ab 1).aI.toNat).whole=false then
   (true,jX (dw (bN w (gt (gt w.rows i).ab 0).aI.toNat (cA (gt w.ae (gt (gt w.rows i).ab 0).aI.toNat) (dA ⟨⟨true, -((gt w.rows i).low.at' / (gt (gt w.rows i).ab 1).num*(1 / -((gt (gt w.rows i).ab 0).num / (gt (gt w.rows i).ab 1).num)))⟩,⟨true, -((gt w.rows i).low.at' / (gt (gt w.rows i).ab 1).num*(1 / -((gt (gt w.rows i).ab 0).num / (gt (gt w.rows i).ab 1).num)))⟩⟩ (gt w.ae (gt (gt w.rows i).ab 1).aI.toNat).low (gt w.ae (gt (gt w.rows i).ab 1).aI.toNat).high (1 / -((gt (gt w.rows i).ab 0).num / (gt (gt w.rows i).ab 1).num))).lo (dA ⟨⟨true, -((gt w.rows i).low.at' / (gt (gt w.rows i).ab 1).num*(1 / -((gt (gt w.rows i).ab 0).num / (gt (gt w.rows i).ab 1).num)))⟩,⟨true, -((gt w.rows i).low.at' / (gt (gt w.rows i).ab 1).num*(1 / -((gt (gt w.rows i).ab 0).num / (gt (gt w.rows i).ab 1).num)))⟩⟩ (gt w.ae (gt (gt w.rows i).ab 1).aI.toNat).low (gt w.ae (gt (gt w.rows i).ab 1).aI.toNat).high (1 / -((gt (gt w.rows i).ab 0).num / (gt (gt w.rows i).ab 1).num))).hi)) i) (gt (gt w.rows i).ab 1).aI.toNat ((gt w.rows i).low.at' / (gt (gt w.rows i).ab 1).num) [⟨(gt (gt w.rows i).ab 0).aI, -((gt (gt w.rows i).ab 0).num / (gt (gt w.rows i).ab 1).num)⟩])
   else(false,w)):=rfl
 rw[hl,ha]at e0;simp only[true_and]at e0;clear pn;generalize gt (gt w.rows i).ab 0=a at *;generalize gt (gt w.rows i).ab 1=b at *;have hby:=U5 a2 b2;have hjx:a.aI.toNat<w.ae.length:=by rw[G.S.nc];exact a1
 have hjy:b.aI.toNat<w.ae.length:=by rw[G.S.nc];exact b1
 have wx:=G.W.co _ hjx;have wy:=G.W.co _ hjy;have lx:=dq hjx;have ly:=dq hjy;have w1:qw (qB u (ay w.gc) (ay w.gr)+qA u (ay w.gc)) ((gt w.rows i).low.at' / b.num):=iI wr.1 wb (by omega);have w2:qw (2*qA u (ay w.gc)) (-(a.num / b.num)):=ah (iX (iI wa wb (by omega))) (by omega);have w3:qw (1+2*qA u (ay w.gc)) (1 / -(a.num / b.num)):=iI (zy (Nat.le_refl 1)) w2 (by omega);have w4:=iX (bM w1 w3 (by omega));have ws:=nM (s:=⟨⟨true,_⟩,⟨true,_⟩⟩) ⟨w4,w4⟩ wy.1 wy.2.1 w3 (by omega);have q0:bQ 1:=dN (zy (k:=1) (by omega)) (by omega);have qx1:bQ (gt w.ae a.aI.toNat).low.at':=ah wx.1 (by omega);have qx2:bQ (gt w.ae a.aI.toNat).high.at':=ah wx.2.1 (by omega);have qy1:bQ (gt w.ae b.aI.toNat).low.at':=ah wy.1 (by omega);have qy2:bQ (gt w.ae b.aI.toNat).high.at':=ah wy.2.1 (by omega);have qto:bQ ((gt w.rows i).low.at' / b.num):=ah w1 (by omega);have qby:bQ (-(a.num / b.num)):=ah w2 (by omega);have qa:bQ a.num:=ah wa (by omega);have qbn:bQ b.num:=ah wb (by omega);have qiv:bQ (1 / -(a.num / b.num)):=ah w3 (by omega);have qst:bQ (-((gt w.rows i).low.at' / b.num*(1 / -(a.num / b.num)))):=ah w4 (by omega);have qm1:bQ ((gt w.ae b.aI.toNat).low.at'*(1 / -(a.num / b.num))):=ah (bM wy.1 w3 (by omega)) (by omega);have qm2:bQ ((gt w.ae b.aI.toNat).high.at'*(1 / -(a.num / b.num))):=ah (bM wy.2.1 w3 (by omega)) (by omega);have gX:=rU (-((gt w.rows i).low.at' / b.num*(1 / -(a.num / b.num))));have gS:=wJ ⟨⟨true, -((gt w.rows i).low.at' / b.num*(1 / -(a.num / b.num)))⟩,⟨true, -((gt w.rows i).low.at' / b.num*(1 / -(a.num / b.num)))⟩⟩ (gt w.ae b.aI.toNat).low (gt w.ae b.aI.toNat).high (1 / -(a.num / b.num)) ⟨qst,qst⟩ qy1 qy2 qiv ⟨qm1,qm2⟩;have qs1:=dN ws.1 (by omega);have qs2:=dN ws.2 (by omega);generalize dA ⟨⟨true, -((gt w.rows i).low.at' / b.num*(1 / -(a.num / b.num)))⟩,⟨true, -((gt w.rows i).low.at' / b.num*(1 / -(a.num / b.num)))⟩⟩ (gt w.ae b.aI.toNat).low (gt w.ae b.aI.toNat).high (1 / -(a.num / b.num))=S at *;obtain⟨c2,ec2⟩:∃c2,cA (gt w.ae a.aI.toNat) S.lo S.hi=c2:=⟨_,rfl⟩;have gM:=nO (mx:=mx) hjx qs1 qs2 qx1 qx2;rw[ec2]at gM e0;have cc2:c2.cost=(gt w.ae a.aI.toNat).cost:=by rw[←ec2];rfl
 have S1:=we (sI G.S a.aI.toNat c2) i;have hW:w5 (dw (bN w a.aI.toNat c2) i) ((gt w.rows i).low.at' / b.num) [⟨a.aI, -(a.num / b.num)⟩] (qA u (ay w.gc)) (qB u (ay w.gc) (ay w.gr)):=by
  refine⟨by omega,by omega,by omega,G.W.te,G.W.ro,fun j hj=>?_,G.W.sh,w1,fun k hk=>?_⟩
  ·have hj:j<w.ae.length:=by simpa[dw,bN]using hj
   show qw _ (gt (w.ae.set _ _) j).cost;rw[gN hj];split
   ·rename_i e;subst e;rw[cc2];exact wx.2.2
   ·exact(G.W.co j hj).2.2
  ·have:k=0:=by simpa using hk
   subst this;exact w2
 have gP:=yj (mx:=mx) (w:=dw (bN w a.aI.toNat c2) i) S1 h7 h7' b1 (a:=(gt w.rows i).low.at' / b.num) (ts:=[⟨a.aI, -(a.num / b.num)⟩]) (by simp) (fun k hk=>by
  have:k=0:=by simpa using hk
  subst this;exact⟨a0,a1,by show a.aI.toNat≠b.aI.toNat;omega⟩) hW
 have wg:(bN w a.aI.toNat c2).gr=w.gr:=rfl;have eR:dw (bN w a.aI.toNat c2) i=⟨(bN w a.aI.toNat c2).ae,(bN w a.aI.toNat c2).rows,(bN w a.aI.toNat c2).sh,(bN w a.aI.toNat c2).gc,w.gr.set i true,(bN w a.aI.toNat c2).steps,(bN w a.aI.toNat c2).no⟩:=rfl;clear S1 hW w4 ws wx wy wa wb w2 w3 w1 wr G cc2 ec2 pA pB tA tB gc7 gr7 q2;obtain⟨ja,eja⟩:∃ja:Nat,a.aI=ja:=⟨a.aI.toNat,by omega⟩;obtain⟨jb,ejb⟩:∃jb:Nat,b.aI=jb:=⟨b.aI.toNat,by omega⟩;have eja':a.aI.toNat=ja:=by omega
 have ejb':b.aI.toNat=jb:=by omega
 simp only[eja',ejb']at e0 eR gM gP lx ly hjx hjy wg gS gX;by_cases hw1:(gt w.ae ja).whole=true
 case pos =>
  rw[e0,if_neg (by simp[hw1])];refine aa.go ?_;simp only[aE,aQ];refine aa.akJ (.qs [0,1,2,3,4,5,6,7,8,9,10,11,12,13,14,15,16,17,18,19,20,21,22,23,24,25,26,27,28,29,30,31,32,33,34,35]<|.nil) ?_;simp(disch:=omega)[hl',ha,lac,lbc,eja,ejb,hjx,hjy,lx,ly,hw1];repeat refine akI ?_
  exact⟨_,_,fin0,by simp,by simp[aE,aQ,dX],by simp[aE],.inr ⟨by simp,by simp[aE,eP,aQ]⟩⟩
 by_cases hw2:(gt w.ae jb).whole=true
 case pos =>
  rw[e0,if_neg (by simp[hw2])];refine aa.go ?_;simp only[aE,aQ];refine aa.akJ (.qs [0,1,2,3,4,5,6,7,8,9,10,11,12,13,14,15,16,17,18,19,20,21,22,23,24,25,26,27,28,29,30,31,32,33,34,35]<|.nil) ?_;simp(disch:=omega)[hl',ha,lac,lbc,eja,ejb,hjx,hjy,lx,ly,hw1,hw2];repeat refine akI ?_
  exact⟨_,_,fin0,by simp,by simp[aE,aQ,dX],by simp[aE],.inr ⟨by simp,by simp[aE,eP,aQ]⟩⟩
 rw[e0,if_pos ⟨by simpa using hw1,by simpa using hw2⟩];clear e0 fin0;generalize hto:(gt w.rows i).low.at' / b.num=to at *;generalize hB' : -(a.num / b.num)=bz at *;refine aa.cutAt 1 (fun st=>st=⟨138,[(0,.ptr 0 0 0),(1,iv i),(5,.ptr 6 0 0)],aE mx w++[some ⟨13,[cQ (gt w.rows i)],false⟩]⟩) ?_ ?_
 ·simp only[ar,aq,aE,aQ];refine aa.akJ (.qs [0,1,2,3,4,5,6,7,8,9,10,11,12,13,14,15,16,17,18,19,20,21,22,23,24,25,26,27,28,29,30,31,32,33,34,35]<|.nil) ?_;simp(disch:=omega)[hl',ha,lac,lbc,eja,ejb,hjx,hjy,lx,ly,hw1,hw2];repeat refine akI ?_
  simp[aw,hC];done
 rintro st rfl;simp only[ao,al];have q1b:=(xq ha).1;refine aa.cutAt 3 (fun st=>st=⟨138,[(0,.ptr 0 0 0),(1,iv i),(5,.ptr 6 0 0),(7,.ptr 7 0 0),(8,.ptr 8 0 0),(9,.ptr 9 0 0)],aE mx w++[some ⟨13,[cQ (gt w.rows i)],false⟩,some ⟨16,[cw (gt w.ae jb)],false⟩,some ⟨4,[bL to],false⟩,some ⟨4,[bL (a.num / b.num)],false⟩]⟩) ?_ ?_
 ·simp only[ar,aq,aE,aQ];refine aa.akJ (.qs [0,1,2,3,4,5,6,7,8,9,10]<|.l 11 []<|.l 12 [7,1000000]<|.nil) ?_;simp(disch:=omega)[hl',lac,lbc,lan,lbn,eja,ejb,hjx,hjy,lx,ly];repeat refine akI ?_
  refine aa.nG (.d 8<|.qs [0,1,2,3,4,5,6]<|.p 7<|.b (.l 9 [8]<|.nil)) (by kernel_rfl) (by kernel_rfl) (by simp) ?_;simp(disch:=omega)[hl',lac,lbc,lan,lbn,q1b,du q1b];repeat refine akI ?_
  refine ig (uf (gt w.rows i).low.at' b.num q1 qbn b2) (by simp) ?_;simp(disch:=omega)[hto];repeat refine akI ?_
  refine aa.nG (.d 9<|.qs [0,1,2,3,4,5,6,7]<|.p 8<|.b (.l 10 [9]<|.nil)) (by kernel_rfl) (by kernel_rfl) (by simp) ?_;simp(disch:=omega)[hl',lac,lbc,lan,lbn];repeat refine akI ?_
  refine ig (uf a.num b.num qa qbn b2) (by simp) ?_;simp;simp[aw,hC];done
 rintro st rfl;simp only[ao,al];refine aa.cutAt 4 (fun st=>st=⟨138,[(0,.ptr 0 0 0),(1,iv i),(5,.ptr 6 0 0),(7,.ptr 7 0 0),(8,.ptr 8 0 0),(9,.ptr 9 0 0),(10,.ptr 10 0 0),(11,.ptr 11 0 0)],aE mx w++[some ⟨13,[cQ (gt w.rows i)],false⟩,some ⟨16,[cw (gt w.ae jb)],false⟩,some ⟨4,[bL to],false⟩,some ⟨4,[bL bz],false⟩,some ⟨4,[bL (1 / bz)],false⟩,some ⟨4,[bL (-(to*(1 / bz)))],false⟩]⟩) ?_ ?_
 ·simp only[ar,aq,aE,aQ];simp;refine akK (ub (a.num / b.num)) ?_;simp[hB'];refine aa.nG (.d 3<|.qs [1]<|.p 0<|.p 2<|.b (.l 4 [10]<|.nil)) (by kernel_rfl) (by kernel_rfl) (by simp) ?_;simp;refine ig (uk) (by simp) ?_;simp;refine ig (uf 1 bz q0 qby hby) (by simp) ?_;simp;refine akK (oI to (1 / bz) qto qiv) ?_;simp;refine akK (ub (to*(1 / bz))) ?_;simp;simp[aw,hC];done
 rintro st rfl;simp only[ao,al];refine aa.cutAt 1 (fun st=>st=⟨138,[(0,.ptr 0 0 0),(1,iv i),(5,.ptr 6 0 0),(8,.ptr 8 0 0),(9,.ptr 9 0 0),(12,.ptr 12 0 0)],aE mx w++[some ⟨13,[cQ (gt w.rows i)],false⟩,some ⟨16,[cw (gt w.ae jb)],false⟩,some ⟨4,[bL to],false⟩,some ⟨4,[bL bz],false⟩,some ⟨4,[bL (1 / bz)],false⟩,some ⟨4,[bL (-(to*(1 / bz)))],false⟩,some ⟨10,[tm S],false⟩]⟩) ?_ ?_
 ·simp only[ar,aq,aE,aQ];refine aa.nG (.d 8<|.qs [0,2,3,4,5,6]<|.p 1<|.p 7<|.b (.l 9 [12]<|.nil)) (by kernel_rfl) (by kernel_rfl) (by simp) ?_;simp;refine ig (gX) (by simp) ?_;simp;refine ig (gS) (by simp) ?_;simp;simp[aw,hC];done
 rintro st rfl;simp only[ao,al];have lr2:aB ((bN w ja c2).gr.map bZ) i=bZ (gt w.gr i):=l2;refine aa.go ?_;simp only[aE,aQ];refine aa.akJ (.qs [0,1,2,3,4,5,6,7,8]<|.l 9 [0,1,2,3,4,5]<|.nil) ?_;simp(disch:=omega)[hl',lac,eja];repeat refine akI ?_
 refine cN gM [0,1,2,3,4,5] (by simp) (by simp[aE,aQ]) (by simp) (by simp) (by simp) ?_;rintro T y ⟨rfl,rfl⟩;rw[eR]at gP;generalize bN w ja c2=w2 at *;simp only[aE,aQ];rw[wg]at *;simp(disch:=omega)[hr',l2,eQ];repeat refine akI ?_
 have lr6:aB (List.map (fun t=>SV.val (.int .i64 t.aI)) (gt w.rows i).ab) 1=.val (.int .i64 jb):=by rw[lbc,ejb]
 refine aa.Jv (i:=13) (.qs [0,1,2,3,4,5,6,7,8,9,11]<|.alt 10 [] (.l 12 []<|.nil)<|.alt 12 [] (.l 10 []<|.nil)<|.stop) (by kernel_rfl) (by kernel_rfl) (by simp) rfl rfl rfl ?_;simp(disch:=omega)[hl',lr6,lac,eja];repeat refine akI ?_
 rw[eja]at gP;rw[eR];have s1:∀(k:Nat) (es:List SV),j8 k es ((w.gr.map bZ).set i (.val (.bool true)))=(w.gr.map bZ).set i (.val (.bool true)):=fun k es=>by
  rw[show(SV.val (.bool true))=bZ true from rfl,←amw];exact dB _ _ _ (by simp[-amw])
 have s2:∀σ:Nat→Nat,dj σ ((w.gr.map bZ).set i (.val (.bool true)))=(w.gr.map bZ).set i (.val (.bool true)):=fun σ=>by
  rw[show(SV.val (.bool true))=bZ true from rfl,←amw];exact cG _ _ (by simp[-amw])
 refine⟨?_,?_⟩;all_goals
  refine BV 13 rfl (by simp) ?_;simp;refine BV 14 rfl (by simp) ?_;simp;refine cN gP [0,1,2,3,4,5] (by simp) (by simp[aE,aQ,s1,s2]) (by simp[kS,kd]) (by simp[aE,aQ,hC]) (by simp) ?_;rintro T y ⟨rfl,rfl⟩;generalize jX _ jb to [⟨(ja:Int),bz⟩]=w4;simp only[aE,aQ];simp;exact⟨_,_,(iu.same:iu mx (true,w4) _ _),by simp,by simp[aE,aQ,dX],by simp[aE],.inr ⟨by simp,by simp[aE,eP,aQ]⟩⟩
end Go.Proofs
set_option maxRecDepth 10000
set_option maxHeartbeats 2000000
namespace Go.Ps
open Go Go.Sv Go.Pl Go.Proofs Go.Tb Go.Ut Go.Li
def j7(mx:Bool):Nat→Wk→Nat→Bool × Wk
 | 1=>zA
 | 4=>su
 | _=>fT mx
def kX:Nat→Wk→Nat→Bool × Wk
 | 1=>xK
 | 2=>jU
 | 3=>j3
 | 6=>gj
 | _=>iB
theorem BC{w:Wk}{j i:Nat}(h:fU w j i=false):fU w j (i+1)=(!gt w.gr i&&decide (aP (gt w.rows i).ab j≠0)):=by
 unfold fU;rw[h];simp
theorem EZ{w:Wk}{j i:Nat}(h:fU w j i=true):∀m,i≤m→fU w j m=true:=fun m hm=>by
 induction m with
 | zero=>rw[show i=0 by omega]at h;exact h
 | succ m ih =>
  rcases Nat.lt_or_ge m i with q | q
  ·rw[show m+1=i by omega];exact h
  ·unfold fU;rw[ih q];simp
theorem FZ{w:Wk}{j:Nat}:su w j=(if alike (gt w.ae j).low (gt w.ae j).high=true then(if(gt w.ae j).whole=true∧(gt w.ae j).low.at'.den≠1 then(true,da w true) else(true,jX w j (gt w.ae j).low.at' [])) else(false,w)):=rfl
theorem GB{w:Wk}{i:Nat}:j3 w i=(if(gt w.rows i).ab.length=1 then(true,dw (bN w (gt (gt w.rows i).ab 0).aI.toNat (cA (gt w.ae (gt (gt w.rows i).ab 0).aI.toNat) (dA zB (gt w.rows i).low (gt w.rows i).high (1 / (gt (gt w.rows i).ab 0).num)).lo (dA zB (gt w.rows i).low (gt w.rows i).high (1 / (gt (gt w.rows i).ab 0).num)).hi)) i) else(false,w)):=rfl
theorem Mx{w:Wk}{i:Nat}:jU w i=(if(gt w.rows i).ab.length=0 then(true,dw (da w (!qd 0 (gt w.rows i).low (gt w.rows i).high)) i) else(false,w)):=rfl
end Go.Ps
namespace Go.Proofs
open Go.Sv Go Go.Tb Go.Pl Go.Ut Go.Li Go.Ps
theorem zO{n m u:Nat}{w:Wk}{mx:Bool}(G:bh n m u w)(hn:w.no=false)(hu8:8≤u)(hu:u≤2400)(h7:n≤7)(h7':m≤7){j:Nat}(hj:j<n){k:Nat}(hk:k=1∨k=4∨k=5) :
  ji Tryz.prog 77 [.ptr 0 0 0,iv k,iv j] (aE mx w) [5] (iu mx (j7 mx k w j)):=by
 have hr:j<w.ae.length:=by rw[G.S.nc];exact hj
 have l1:=dq hr;obtain⟨gc7,gr7⟩:=dr G;have tB:=iL hu (c:=ay w.gc) (r:=ay w.gr) (by omega) (by omega);have nrm:=G.S.nr;have w0:=G.W.co j hr;have p1:bQ (gt w.ae j).low.at':=ah w0.1 (by omega);have p2:bQ (gt w.ae j).high.at':=ah w0.2.1 (by omega);refine bP Tryz.func77 rfl (by simp) (fun C hC=>?_);have hC:C.fx=[0,1,2,3,4]:=hC;refine aa.cutAt 2 (fun st=>st=⟨99,[(0,.ptr 0 0 0),(1,iv k),(2,iv j),(7,.ptr 6 0 0)],aE mx w++[some ⟨16,[cw (gt w.ae j)],false⟩]⟩) ?_ ?_
 ·simp only[ar,aq,aE,aQ];simp(disch:=omega)[hr,l1];repeat refine akI ?_
  simp[aw,hC];done
 rintro st rfl;simp only[ao,al];rcases hk with rfl | rfl | rfl
 ·refine aa.go ?_;simp only[aE,aQ];simp;refine akK (iQ (gt w.ae j).low (gt w.ae j).high p1 p2) ?_;simp;have fin:iu mx (zA w j) _ _:=iu.same;exact⟨_,_,fin,rfl,by simp[aE,aQ,dX,zA,da],by simp[aE],.inr ⟨rfl,by simp[aE,eP,aQ]⟩⟩
 ·have e0:j7 mx 4 w j=su w j:=rfl;rw[e0,FZ];have gP:=yj (mx:=mx) G.S h7 h7' hj (a:=(gt w.ae j).low.at') (ts:=[]) (by simp) (fun k hk=>by simp at hk) (w5.of G hu8 hu h7 h7' w0.1);have gA:=oM (gt w.ae j).low (gt w.ae j).high p1 p2;generalize gt w.ae j=c at *;refine aa.go ?_;simp only[aE,aQ];simp;refine akK (gA) ?_;by_cases ha:alike c.low c.high=true
  ·rw[if_pos ha];have hl:=(xq ha).1;simp[ha,du hl];refine akK (s7 c.low.at') ?_;by_cases hw:c.whole=true∧c.low.at'.den≠1
   ·rw[if_pos hw];simp(disch:=omega)[hw.1,hw.2];repeat refine akI ?_
    have fin:iu mx (true,da w true) _ _:=iu.same;exact⟨_,_,fin,rfl,by simp[aE,aQ,dX,da],by simp[aE],.inr ⟨rfl,by simp[aE,eP,aQ]⟩⟩
   ·rw[if_neg hw];by_cases hw1:c.whole=true
    ·have hw2:c.low.at'.den=1:=by
      by_cases q:c.low.at'.den=1
      ·exact q
      ·exact absurd ⟨hw1,q⟩ hw
     simp(disch:=omega)[hw1,hw2,du hl];repeat refine akI ?_
     refine yL ?_;simp;refine cN gP [0,1,2,3,4,5] (by simp) (by simp[aE,aQ]) (by simp[kS,kd]) (by simp[hC,aE,aQ]) (by simp) ?_;rintro T y ⟨rfl,rfl⟩;generalize jX w j c.low.at' []=w2;simp only[aE,aQ];simp;have fin:iu mx (true,w2) _ _:=iu.same;exact⟨_,_,fin,rfl,by simp[aE,aQ,dX],by simp[aE],.inr ⟨rfl,by simp[aE,eP,aQ]⟩⟩
    ·simp(disch:=omega)[hw1,du hl];repeat refine akI ?_
     refine yL ?_;simp;refine cN gP [0,1,2,3,4,5] (by simp) (by simp[aE,aQ]) (by simp[kS,kd]) (by simp[hC,aE,aQ]) (by simp) ?_;rintro T y ⟨rfl,rfl⟩;generalize jX w j c.low.at' []=w2;simp only[aE,aQ];simp;have fin:iu mx (true,w2) _ _:=iu.same;exact⟨_,_,fin,rfl,by simp[aE,aQ,dX],by simp[aE],.inr ⟨rfl,by simp[aE,eP,aQ]⟩⟩
  ·rw[if_neg ha];simp(disch:=omega)[ha];repeat refine akI ?_
   have fin:iu mx (false,w) _ _:=iu.same;exact⟨_,_,fin,rfl,by simp[aE,aQ,dX],by simp[aE],.inr ⟨rfl,by simp[aE,eP,aQ]⟩⟩
 ·have e0:j7 mx 5 w j=fT mx w j:=rfl;rw[e0];refine aa.go ?_;simp only[aE,aQ];simp;refine aa.bG (ι:=Nat) (fun i=>⟨99,[(0,.ptr 0 0 0),(2,iv j),(10,iv i)],aE mx w⟩)
   (fun i=>i≤w.rows.length∧fU w j i=false) (fun i=>w.rows.length - i) 0 ⟨Nat.zero_le _,rfl⟩ ?_ ?_
  ·simp[aw,hC,aE,aQ];done
  rintro i ⟨hi,hI⟩;simp only[aE,aQ];by_cases az:i<w.rows.length
  ·have hig:i<w.gr.length:=by rw[G.S.gr,←G.S.nr];exact az
   have lr:=eU az;have lg:=bI hig;have hbt:=G.S.te i (by rw[←G.S.nr];exact az);have tl7:(gt w.rows i).ab.length≤7:=by have:=ic hbt;omega
   have st:=BC hI;simp(disch:=omega)[az,lr];repeat refine akI ?_
   refine akK (o9 (gt w.rows i) (by omega) j (by omega)) ?_;simp;refine akK (wU (aP (gt w.rows i).ab j)) ?_;by_cases hg:gt w.gr i=true
   ·rw[hg]at st;simp(disch:=omega)[az,hig,lg,hg];repeat refine akI ?_
    exact⟨i+1,⟨by omega,by simpa using st⟩,by omega,Le.bA (by simp(disch:=omega)[aw,hC,aN,aE,aQ])⟩
   ·have hg':gt w.gr i=false:=by simpa using hg
    rw[hg']at st;by_cases hx:aP (gt w.rows i).ab j=0
    ·simp(disch:=omega)[az,hig,lg,hg',hx];repeat refine akI ?_
     exact⟨i+1,⟨by omega,by simpa[hx]using st⟩,by omega,Le.bA (by simp(disch:=omega)[aw,hC,aN,aE,aQ])⟩
    ·simp(disch:=omega)[az,hig,lg,hg',hx];repeat refine akI ?_
     have e1:fT mx w j=(false,w):=by unfold fT;rw[if_pos (EZ (i:=i+1) (by simpa[hx]using st) _ (by omega))]
     rw[e1];have fin:iu mx (false,w) _ _:=iu.same;exact⟨_,_,fin,rfl,by simp[aE,aQ,dX],by simp[aE],.inr ⟨rfl,by simp[aE,eP,aQ]⟩⟩
  ·obtain rfl:i=w.rows.length:=by omega
   have gI:=IK (mx:=mx) G hn hu8 hu h7 h7' hj hI;simp;refine cN gI [0,1,2,3,4,5] (by simp) (by simp[aE,aQ]) (by simp) (by simp[hC,aE,aQ]) (by simp) ?_;rintro T y ⟨rfl,w',rfl,h1,h2⟩;simp only[aE,aQ];simp;have fin:iu mx (fT mx w j) (aE mx w') (bZ (fT mx w j).1):=⟨rfl,w',rfl,h1,h2⟩;exact⟨_,_,fin,rfl,by simp[aE,aQ,dX],by simp[aE],.inr ⟨rfl,by simp[aE,eP,aQ]⟩⟩
theorem EY{n m u:Nat}{w:Wk}{mx:Bool}(G:bh n m u w)(hn:w.no=false)(hu8:8≤u)(hu:u≤2400)(h7:n≤7)(h7':m≤7){i:Nat}(hi:i<m)(hg:gt w.gr i=false){k:Nat}(hk:k=1∨k=2∨k=3∨k=6∨k=7) :
  ji Tryz.prog 78 [.ptr 0 0 0,iv k,iv i] (aE mx w) [5] (iu mx (kX k w i)):=by
 have hr:i<w.rows.length:=by rw[G.S.nr];exact hi
 have hr':i<w.gr.length:=by rw[G.S.gr];exact hi
 have l1:=eU hr;have l2:=bI hr';obtain⟨gc7,gr7⟩:=dr G;have pA:=lD hu8 (ay w.gc);have pB:=iY hu8 (ay w.gc) (ay w.gr);have tA:=mh hu (c:=ay w.gc) (by omega);have tB:=iL hu (c:=ay w.gc) (r:=ay w.gr) (by omega) (by omega);have wr:=G.W.ro i hr;have q1:bQ (gt w.rows i).low.at':=ah wr.1 (by omega);have q2:bQ (gt w.rows i).high.at':=ah wr.2 (by omega);refine bP Tryz.func78 rfl (by simp) (fun C hC=>?_);have hC:C.fx=[0,1,2,3,4]:=hC;refine aa.cutAt 3 (fun st=>st=⟨103,[(0,.ptr 0 0 0),(1,iv k),(2,iv i),(7,.ptr 6 0 0),(8,.ptr 7 0 0)],aE mx w++[some ⟨13,[cQ (gt w.rows i)],false⟩,some ⟨4,[bL 0],false⟩]⟩) ?_ ?_
 ·simp only[ar,aq,aE,aQ];simp(disch:=omega)[hr,l1];repeat refine akI ?_
  refine akK (C7) ?_;simp;simp[aw,hC];done
 rintro st rfl;simp only[ao,al];rcases hk with rfl | rfl | rfl | rfl | rfl
 ·refine aa.go ?_;simp only[aE,aQ];simp;refine akK (iQ (gt w.rows i).low (gt w.rows i).high q1 q2) ?_;simp;have fin:iu mx (xK w i) _ _:=iu.same;exact⟨_,_,fin,rfl,by simp[aE,aQ,dX,Ps.xK,da],by simp[aE],.inr ⟨rfl,by simp[aE,eP,aQ]⟩⟩
 ·have e0:kX 2 w i=jU w i:=rfl;rw[e0,Mx];refine aa.go ?_;simp only[aE,aQ];by_cases hl:(gt w.rows i).ab.length=0
  ·rw[if_pos hl];have q0:bQ 0:=dN (Am (n:=0) (by omega) (by omega)) (by omega);simp(disch:=omega)[hl];repeat refine akI ?_
   refine akK (Cs 0 (gt w.rows i).low (gt w.rows i).high q0 q1 q2) ?_;simp(disch:=omega)[hr',l2,eQ];repeat refine akI ?_
   have fin:iu mx (true,dw (da w (!qd 0 (gt w.rows i).low (gt w.rows i).high)) i) _ _:=iu.same;exact⟨_,_,fin,rfl,by simp[aE,aQ,dX,dw,da],by simp[aE],.inr ⟨rfl,by simp[aE,eP,aQ]⟩⟩
  ·rw[if_neg hl];simp(disch:=omega)[show 0<((gt w.rows i).ab.length:Int) by omega,show 0<(gt w.rows i).ab.length by omega];repeat refine akI ?_
   have fin:iu mx (false,w) _ _:=iu.same;exact⟨_,_,fin,rfl,by simp[aE,aQ,dX],by simp[aE],.inr ⟨rfl,by simp[aE,eP,aQ]⟩⟩
 ·have e0:kX 3 w i=j3 w i:=rfl;rw[e0,GB];by_cases hl:(gt w.rows i).ab.length=1
  case neg =>
   rw[if_neg hl];refine aa.go ?_;simp only[aE,aQ];simp(disch:=omega)[show ¬((gt w.rows i).ab.length:Int)=1 by omega];repeat refine akI ?_
   have fin:iu mx (false,w) _ _:=iu.same;exact⟨_,_,fin,rfl,by simp[aE,aQ,dX],by simp[aE],.inr ⟨rfl,by simp[aE,eP,aQ]⟩⟩
  rw[if_pos hl];obtain⟨a0,a1,a2⟩:=eF G hi (k:=0) (by omega);have wa:=G.W.te i hr 0 (by omega);have lac:=gx (r:=gt w.rows i) (k:=0) (by omega);have lan:=iC (r:=gt w.rows i) (k:=0) (by omega);have hl':((gt w.rows i).ab.length:Int)=1:=by omega
  generalize gt (gt w.rows i).ab 0=a at *;have hjx:a.aI.toNat<w.ae.length:=by rw[G.S.nc];exact a1
  have wx:=G.W.co _ hjx;have q0:bQ 1:=dN (zy (k:=1) (by omega)) (by omega);have qz:bQ 0:=dN (Am (n:=0) (by omega) (by omega)) (by omega);have qa:bQ a.num:=ah wa (by omega);have w3:qw (1+qA u (ay w.gc)) (1 / a.num):=iI (zy (Nat.le_refl 1)) wa (by omega);have qiv:bQ (1 / a.num):=ah w3 (by omega);have gX:=rU 0;have gS:=wJ zB (gt w.rows i).low (gt w.rows i).high (1 / a.num) ⟨qz,qz⟩ q1 q2 qiv ⟨ah (bM wr.1 w3 (by omega)) (by omega),ah (bM wr.2 w3 (by omega)) (by omega)⟩;have wz:qw 1 0:=Ut.cP 1 (by omega);have ws:=nM (s:=zB) (a:=(gt w.rows i).low) (b:=(gt w.rows i).high) (r:=1 / a.num) ⟨wz,wz⟩ wr.1 wr.2 w3 (by omega);have qs1:=dN ws.1 (by omega);have qs2:=dN ws.2 (by omega);have eZ:tm ⟨⟨true,0⟩,⟨true,0⟩⟩=tm zB:=rfl;rw[eZ]at gX;generalize dA zB (gt w.rows i).low (gt w.rows i).high (1 / a.num)=S at *;have gM:=nO (mx:=mx) hjx qs1 qs2 (ah wx.1 (by omega)) (ah wx.2.1 (by omega));obtain⟨c2,ec2⟩:∃c2,cA (gt w.ae a.aI.toNat) S.lo S.hi=c2:=⟨_,rfl⟩;rw[ec2]at gM;rw[ec2];obtain⟨ja,eja⟩:∃ja:Nat,a.aI=ja:=⟨a.aI.toNat,by omega⟩;have eja':a.aI.toNat=ja:=by omega
  simp only[eja']at gM ⊢;refine aa.go ?_;simp only[aE,aQ];simp(disch:=omega)[hl'];repeat refine akI ?_
  refine aa.nG (.d 6<|.qs [1,2,3,4]<|.p 0<|.p 5<|.b (.l 7 [8]<|.nil)) (by kernel_rfl) (by kernel_rfl) (by simp) ?_;simp(disch:=omega)[hl',lan];repeat refine akI ?_
  refine ig (uk) (by simp) ?_;simp;refine ig (uf 1 a.num q0 qa a2) (by simp) ?_;simp;refine aa.nG (.d 8<|.qs [0,2,3,4,5,6]<|.p 1<|.p 7<|.b (.l 9 [9]<|.nil)) (by kernel_rfl) (by kernel_rfl) (by simp) ?_;simp;refine ig (gX) (by simp) ?_;simp;refine ig (gS) (by simp) ?_;simp;refine aa.akJ (.qs [0,1,2,3,4,5,6,7,8]<|.l 9 [0,1,2,3,4,5]<|.nil) ?_;simp(disch:=omega)[hl',lac,eja];repeat refine akI ?_
  refine cN gM [0,1,2,3,4,5] (by simp) (by simp[aE,aQ]) (by simp) (by simp) (by simp) ?_;rintro T y ⟨rfl,rfl⟩;have wg:(bN w ja c2).gr=w.gr:=rfl;generalize bN w ja c2=w2 at *;simp only[aE,aQ];rw[←wg]at hr' l2;simp(disch:=omega)[hr',l2,eQ];repeat refine akI ?_
  have fin:iu mx (true,dw w2 i) _ _:=iu.same;exact⟨_,_,fin,rfl,by simp[aE,aQ,dX,dw],by simp[aE],.inr ⟨rfl,by simp[aE,eP,aQ]⟩⟩
 ·have e0:kX 6 w i=gj w i:=rfl;rw[e0];have gI:=BP (mx:=mx) G hn hu8 hu h7 h7' hi hg;refine aa.go ?_;simp only[aE,aQ];simp;refine cN gI [0,1,2,3,4,5] (by simp) (by simp[aE,aQ]) (by simp) (by simp[hC,aE,aQ]) (by simp) ?_;rintro T y ⟨rfl,w',rfl,h1,h2⟩;simp only[aE,aQ];simp;have fin:iu mx (gj w i) (aE mx w') (bZ (gj w i).1):=⟨rfl,w',rfl,h1,h2⟩;exact⟨_,_,fin,rfl,by simp[aE,aQ,dX],by simp[aE],.inr ⟨rfl,by simp[aE,eP,aQ]⟩⟩
 ·have e0:kX 7 w i=iB w i:=rfl;rw[e0];have gI:=Ew (mx:=mx) G hu8 hu h7 h7' hi;refine aa.go ?_;simp only[aE,aQ];simp;refine cN gI [0,1,2,3,4,5] (by simp) (by simp[aE,aQ]) (by simp) (by simp[hC,aE,aQ]) (by simp) ?_;rintro T y ⟨rfl,w',rfl,h1,h2⟩;simp only[aE,aQ];simp;have fin:iu mx (iB w i) (aE mx w') (bZ (iB w i).1):=⟨rfl,w',rfl,h1,h2⟩;exact⟨_,_,fin,rfl,by simp[aE,aQ,dX],by simp[aE],.inr ⟨rfl,by simp[aE,eP,aQ]⟩⟩
end Go.Proofs

