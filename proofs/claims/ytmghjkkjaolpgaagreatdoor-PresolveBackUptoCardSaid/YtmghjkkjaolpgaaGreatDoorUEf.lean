/- A text of the prover's own. -/
import Derived.Test.YtmghjkkjaolpgaaGreatDoorUGh
open List renaming map_set→anF,replicate→alZ,map_cons→amc,getElem_of_mem→apn,length_drop→apo
open Nat renaming mul_le_mul_left→ann,le_refl→amk
set_option maxRecDepth 10000
set_option maxHeartbeats 1000000
namespace Go.Ps
open Go Go.Sv Go.Pl Go.Proofs Go.Tb Go.Ut Go.Li
@[simp] theorem aiq(l:List Rat):jQ (l.map aY)=l.map aY:=rG (fun _=>rfl) l
theorem EP(l:List Rat)(i:Nat)(q:Rat):bD (l.map aY) i (aY q)=(l.set i q).map aY:=wV aY l i q
theorem H3(k:Nat)(l:List Rat)(i:Nat)(q:Rat):SV.lS k ((l.map aY).set i (aY q))=true:=by rw[←anF];simp[-anF]
theorem ux{l:List Rat}{i:Nat}(h:i<l.length):aA (l.map aY) i=aY (gt l i):=eZ aY h
theorem ED:∀n:Nat,jQ (alZ n zR)=(alZ n (0:Rat)).map aY
 | 0=>rfl
 | n+1=>by
  have e:iR zR=aY 0:=by rw[←EY];rfl
  simp only[List.replicate_succ,jQ,ED n,amc,e]
def tP(x:List Rat):aJ:=[some ⟨4,x.map aY,false⟩]
theorem EV{g:List Bool}{j k:Nat}(h:k<(aB g j).length):aA (w9 g j) k=.val (.int .i64 ((gt (aB g j) k:Nat):Int)):=eZ (fun k:Nat=>iv k) h
theorem Lg{l:List lU}{d:Nat}(h:d<l.length)(x:List Rat):mZ (l.drop d) x=(mZ (l.drop (d+1)) x).set (gt l d).aq ((gt l d).at'+dY (mZ (l.drop (d+1)) x) (gt l d).ab (gt l d).ab.length):=by
 rw[List.drop_eq_getElem_cons h,bR h];rfl
theorem uB{n:Nat}{ks:List Nat}{y:List Rat}{V:Nat}(hV:1≤V)(hy:Wd V y):∀k,k≤y.length→Wd V (dN n ks y k)
 | 0,_=>fun i hi=>by
  have hi:i<n:=by simpa[dN]using hi
  show qw V (gt (alZ n (0:Rat)) i);rw[←bR (by simpa using hi)];simp only[List.getElem_replicate];exact Ut.bt _ hV
 | k+1,hk=>fun i hi=>by
  have hi':i<(dN n ks y k).length:=by simpa[dN]using hi
  show qw V (gt ((dN n ks y k).set (gt ks k) (gt y k)) i);by_cases q:gt ks k<(dN n ks y k).length
  ·rw[qT q];split
   ·exact hy k (by omega)
   ·exact uB hV hy k (by omega) i hi'
  ·rw[List.set_eq_of_length_le (by omega)];exact uB hV hy k (by omega) i hi'
end Go.Ps
namespace Go.Proofs
open Go.Sv Go Go.Tb Go.Pl Go.Ut Go.Li Go.Ps
theorem FJ{A V:Nat}(hK:A+V+1≤1250000000)(hV:1≤V)(ts:List Term)(hn:ts.length≤7)(x:List Rat)(hx:Wd V x)(ht:∀k,k<ts.length→qw A (gt ts k).num∧0≤(gt ts k).aq∧(gt ts k).aq<x.length) :
  mw Tryz.prog 45 [.ro (ts.map aT),.view 0 0 x.length] (tP x) [] (fun T y=>T=tP x∧y=aY (dY x ts ts.length)):=by
 refine dK Tryz.func45 rfl (by simp) (fun C hC=>?_);have hC:C.fx=[0]:=hC;refine ae.cutAt 2 (fun st=>st=⟨26,[(0,.ro (ts.map aT)),(1,.view 0 0 x.length),(4,.ptr 1 0 0),(5,.ptr 2 0 0)],tP x++[some ⟨4,[zR],false⟩,some ⟨4,[zR],false⟩]⟩) ?_ ?_
 ·simp only[aG,aE,tP];simp;simp[ar,hC,zR];done
 rintro st rfl;simp only[ax,au];refine ae.le (Le.nl _) ?_;have e:iR zR=aY 0:=by rw[←EY];rfl
 simp only[tP];simp[Tn,xd,EO,jQ,e];refine ae.go ?_;simp;refine ae.cq (ι:=Nat) (fun k=>⟨26,[(1,.view 0 0 x.length),(4,.ptr 1 0 0),(5,.ptr 2 0 0),(8,.ro (ts.map aT)),(9,iv ts.length),(10,iv k)],tP x++[some ⟨4,[aY 0],false⟩,some ⟨4,[aY (dY x ts k)],false⟩]⟩)
  (fun k=>k≤ts.length) (fun k=>ts.length - k) 0 (by omega) ?_ ?_
 ·simp[ar,hC,tP,dY];done
 rintro k hk;simp only[tP,List.cons_append,List.nil_append];by_cases aF:k<ts.length
 ·obtain⟨h1,h2,h3⟩:=ht k aF;have lt:=eu aF;have w1:=p6 hV hx ht k (by omega);have hm:(A+V+1)*k≤(A+V+1)*7:=ann _ (by omega);have w2:=hx (gt ts k).aq.toNat (by omega);have l3:=ux (l:=x) (i:=(gt ts k).aq.toNat) (by omega);have es:dY x ts (k+1)=dY x ts k+(gt ts k).num*gt x (gt ts k).aq.toNat:=rfl;generalize gt ts k=t at *;obtain⟨j,ej⟩:∃j:Nat,t.aq=j:=⟨t.aq.toNat,by omega⟩;have ej':t.aq.toNat=j:=by omega
  rw[ej']at l3 w2 es;have hjx:j<x.length:=by omega
  simp(disch:=omega)[aF,lt];repeat refine alR ?_
  refine ae.alS (.qs [0,1,2,3,4,5,6,7]<|.l 8 []<|.l 9 []<|.l 10 [2]<|.nil) ?_;simp(disch:=omega)[aF,lt,ej,l3,hjx];repeat refine alR ?_
  refine alT (dB t.num (gt x j) (cG h1 (by omega)) (cG w2 (by omega))) ?_;simp;refine alT (dh (dY x ts k) (t.num*gt x j) (cG w1 (by omega)) (cG (bW h1 w2 (by omega)) (by omega))) ?_;simp(disch:=omega)[];repeat refine alR ?_
  exact⟨k+1,by omega,by omega,Le.ct (by simp(disch:=omega)[ar,hC,aP,tP,es])⟩
 ·obtain rfl:k=ts.length:=by omega
  simp;exact⟨_,_,⟨rfl,rfl⟩,rfl,by simp[tP,iS],by simp[tP],.inr ⟨rfl,by simp[tP,j6]⟩⟩
theorem BL{n m:Nat}{z:Wk}{mx:Bool}(G:aW n m 304 z)(h7:n≤7)(h7':m≤7)(hz:z.no=false)(hs:oh z)(hc:rS n z)(y:List Rat)(hy:Wd 301 y)(hl:y.length=(aB z.gc n).length) :
  aI Tryz.prog 16 [.bU (o6 n mx z) 0,.ro (y.map aY)] (.bG [.ro ((mZ z.steps (dN n (aB z.gc n) y (aB z.gc n).length)).map aY),.val .nilIface]):=by
 have eR:o6 n mx z=.agg [cU false,.bU (cz (bM mx z)) 0,.ro (w9 z.gc n),.ro (z.steps.map gk),iv n]:=by unfold o6;rw[if_neg (by simp[hz])];rfl
 rw[eR];clear eR;have kl:=ru z.gc n;obtain⟨g1,g2⟩:=fm G;have sl:=G.S.st;have tA:=oU (u:=304) (c:=aD z.gc) (c':=7) (by omega);have tB:=iI (u:=304) (c:=aD z.gc) (c':=7) (r:=aD z.gr) (r':=7) (by omega) (by omega);have eA:qA 304 7=4980733:=by decide
 have eB:qB 304 7 7=79691776:=by decide
 have hst:∀k,k<z.steps.length→qw 79691776 (gt z.steps k).at'∧(gt z.steps k).ab.length≤1∧(gt z.steps k).aq<n∧∀t∈(gt z.steps k).ab,qw 4980733 t.num∧0≤t.aq∧t.aq.toNat<n:=fun k hk=>by
  obtain⟨a,b⟩:=G.W.st k hk;obtain⟨c,d⟩:=hc _ (dr hk);refine⟨ah a (by omega),hs _ (dr hk),c,fun t ht=>?_⟩;obtain⟨i,hi,rfl⟩:=apn ht;have:=b i hi;rw[bR hi]at ht ⊢;exact⟨ah this (by omega),(d _ ht).1,(d _ ht).2⟩
 refine ir Tryz.func16 rfl (by simp) (fun C hC=>?_);refine ae.wk ?_;refine ae.cutAt 3 (fun st=>st=⟨78,[(0,.bU (.agg [cU false,.bU (cz (bM mx z)) 0,.ro (w9 z.gc n),.ro (z.steps.map gk),iv n]) 0),(1,.ro (y.map aY)),(6,.view 0 0 n)],[some ⟨4,alZ n zR,false⟩]⟩) ?_ ?_
 ·simp only[aG,aE];simp[hl];refine⟨by omega,?_⟩;simp[ar,hC,zR];done
 rintro st rfl;simp only[ax,au];refine ae.le (Le.nl _) ?_;have e0:jQ (alZ n zR)=(dN n (aB z.gc n) y 0).map aY:=ED n;simp[Tn,xd,EO,jQ];rw[e0];refine ae.cutAt 1 (fun st=>st=⟨78,[(0,.bU (.agg [cU false,.bU (cz (bM mx z)) 0,.ro (w9 z.gc n),.ro (z.steps.map gk),iv n]) 0),(6,.view 0 0 n)],tP (dN n (aB z.gc n) y (aB z.gc n).length)⟩) ?_ ?_
 ·simp only[aG,aE];simp;refine ae.cq (ι:=Nat) (fun k=>⟨78,[(0,.bU (.agg [cU false,.bU (cz (bM mx z)) 0,.ro (w9 z.gc n),.ro (z.steps.map gk),iv n]) 0),(1,.ro (y.map aY)),(6,.view 0 0 n),(34,.ro (w9 z.gc n)),(35,iv (aB z.gc n).length),(36,iv k)],tP (dN n (aB z.gc n) y k)⟩)
   (fun k=>k≤(aB z.gc n).length) (fun k=>(aB z.gc n).length - k) 0 (by omega) ?_ ?_
  ·simp[ar,hC,tP];done
  rintro k hk;simp only[tP];by_cases aF:k<(aB z.gc n).length
  ·have lk:=EV (g:=z.gc) (j:=n) aF;obtain⟨a1, -, -⟩:=rD z.gc aF;have ly:=ux (l:=y) (i:=k) (by omega);have fe:dN n (aB z.gc n) y (k+1)=(dN n (aB z.gc n) y k).set (gt (aB z.gc n) k) (gt y k):=rfl;have fl:=jn n (aB z.gc n) y k;generalize dN n (aB z.gc n) y k=f at *;generalize gt (aB z.gc n) k=j at *;have lf:=ux (l:=f) (i:=j) (by omega);have jf:j<f.length:=by omega
   have hky:k<y.length:=by omega
   simp(disch:=omega)[aF,lk,ly,fl,lf,jf,a1,hky,EP];repeat refine alR ?_
   exact⟨k+1,by omega,by omega,Le.ct (by simp(disch:=omega)[ar,hC,aP,tP,fe])⟩
  ·obtain rfl:k=(aB z.gc n).length:=by omega
   simp;simp[ar,hC,tP];done
 rintro st rfl;simp only[ax,au];obtain⟨F,eF⟩:∃F,dN n (aB z.gc n) y (aB z.gc n).length=F:=⟨_,rfl⟩;have Fn:F.length=n:=by rw[←eF,jn]
 have Fw:Wd 301 F:=by rw[←eF];exact uB (by omega) hy _ (by omega)
 rw[eF];clear eF e0 hy;refine ae.go ?_;simp only[tP];simp;refine ae.cq (ι:=Nat) (fun d=>⟨78,[(0,.bU (.agg [cU false,.bU (cz (bM mx z)) 0,.ro (w9 z.gc n),.ro (z.steps.map gk),iv n]) 0),(6,.view 0 0 n),(9,iv ((d:Int) - 1))],tP (mZ (z.steps.drop d) F)⟩)
  (fun d=>d≤z.steps.length) (fun d=>d) z.steps.length (by omega) ?_ ?_
 ·simp(disch:=omega)[ar,hC,tP,mZ,aP];done
 rintro d hd;have bl:=uD (z.steps.drop d) F;simp only[tP];by_cases h0:0<d
 ·obtain⟨e,rfl⟩:∃e,d=e+1:=⟨d - 1,by omega⟩;have he:e<z.steps.length:=by omega
  have ls:=FZ he;have bd:=Lg he F;obtain⟨s1,s2,s3,s4⟩:=hst e he;have bw:=Nm (A:=4980733) (B:=79691776) (V:=301) (n:=n) (by omega) (z.steps.drop (e+1)) F Fw Fn (fun s hm=>by
   obtain⟨i,hi,rfl⟩:=apn hm;simp only[apo]at hi;rw[List.getElem_drop,bR (by omega)];exact hst _ (by omega))
  have bw':Wd 592707885 (mZ (z.steps.drop (e+1)) F):=fun i hi=>by
   have hd7:(z.steps.drop (e+1)).length≤7:=by simp only[apo];omega
   have:=ann (4980733+79691776+3) hd7;exact ah (bw i hi) (by omega)
  generalize gt z.steps e=s at *;generalize mZ (z.steps.drop (e+1)) F=X at *;have Xn:X.length=n:=by omega
  have tt:∀k,k<s.ab.length→qw 4980733 (gt s.ab k).num∧0≤(gt s.ab k).aq∧(gt s.ab k).aq<X.length:=fun k hk=>by
   obtain⟨a,b,c⟩:=s4 _ (dr hk);exact⟨a,b,by omega⟩
  have gS:=FJ (A:=4980733) (V:=592707885) (by omega) (by omega) s.ab (by omega) X bw' tt;have wS:=p6 (A:=4980733) (V:=592707885) (by omega) bw' tt s.ab.length (amk _);have lX:=ux (l:=X) (i:=s.aq) (by omega);have sX:s.aq<X.length:=by omega
  have ie:((e+1:Nat):Int) - 1=e:=by omega
  have he7:e<7:=by omega
  rw[Xn]at gS;rw[ie];simp(disch:=omega)[he,ls];repeat refine alR ?_
  refine ae.alS (.qs [0,1]<|.q 2 [0]<|.qs [3]<|.q 4 [0]<|.qs [5,6,7]<|.l 8 [0]<|.l 9 []<|.qs [10]<|.l 11 [0]<|.nil) ?_;simp(disch:=omega)[he,ls];repeat refine alR ?_
  refine fy gS [0] (by simp) (by simp[tP,Xn]) (by simp[Xn]) (by simp) (by simp) ?_;rintro T y2 ⟨rfl,rfl⟩;simp only[tP];simp;refine alT (dh s.at' (dY X s.ab s.ab.length) (cG s1 (by omega)) (cG wS (by omega))) ?_;simp(disch:=omega)[sX,lX,s3,Xn,EP];repeat refine alR ?_
  exact⟨e,by omega,by omega,Le.ct (by simp(disch:=omega)[ar,hC,aP,tP,bd,H3])⟩
 ·obtain rfl:d=0:=by omega
  rw[List.drop_zero]at bl ⊢;simp;have bn:(mZ z.steps F).length=n:=by omega
  have t:List.take n ((mZ z.steps F).map aY)=(mZ z.steps F).map aY:=List.take_of_length_le (by simp[bn]);refine⟨_,Le.kE 0 rfl (by simp),?_⟩;simp[fg,aN,bn,t];done
theorem FH(n:Nat)(mx:Bool)(z:Wk)(hz:z.no=true)(y:List Rat):aI Tryz.prog 16 [.bU (o6 n mx z) 0,.ro (y.map aY)] (.bG [.ro [],EL 4]):=by
 have eR:o6 n mx z=.agg [cU true,.val (.pointer none),.ro [],.ro [],iv n]:=by unfold o6;rw[if_pos hz]
 rw[eR];refine aj Tryz.func16 rfl (by simp) (fun C hC=>?_);simp;refine ae.alS (.qs [0,1,2]<|.nil) ?_;simp[GP];done
theorem EZ(n:Nat)(mx:Bool)(z:Wk)(hz:z.no=false)(y:List Rat)(hl:y.length≠(aB z.gc n).length):aI Tryz.prog 16 [.bU (o6 n mx z) 0,.ro (y.map aY)] (.bG [.ro [],EL 4]):=by
 have eR:o6 n mx z=.agg [cU false,.bU (cz (bM mx z)) 0,.ro (w9 z.gc n),.ro (z.steps.map gk),iv n]:=by unfold o6;rw[if_neg (by simp[hz])];rfl
 rw[eR];refine aj Tryz.func16 rfl (by simp) (fun C hC=>?_);simp[show ¬(y.length:Int)=(aB z.gc n).length by omega];refine ae.alS (.qs [0,1,2]<|.nil) ?_;simp[GP];done
end Go.Proofs
set_option maxRecDepth 20000
set_option maxHeartbeats 2000000
namespace Go.Ps
open Go Go.Sv Go.Pl Go.Proofs Go.Tb Go.Ut Go.Li
theorem vK{n m u:Nat}{mx:Bool}(hu:8≤u){w z:Wk}(hr:BM mx w z):aW n m u w→aW n m u z:=by
 induction hr with
 | no _=>exact id
 | last q _=>exact fun G=>(nF hu G q).lW
 | step q _ _ ih=>exact fun G=>ih (nF hu G q).lW
theorem Df{z:Wk}(h:BM true (bI P1) z):z=(gy true (bI P1)).2:=by
 cases h with
 | no h=>cases h
 | last=>rfl
 | step _ h1=>rw[wg]at h1;cases h1
theorem CJ:mZ (gy true (bI P1)).2.steps (dN 2 (aB (gy true (bI P1)).2.gc 2) [4,1] 2)=[4,1]:=by decide +kernel
theorem AG:dq P1 [4,1] false=true:=by decide +kernel
theorem Bb(p:aO):oh (bI p):=fun s hs=>by simp[bI]at hs
theorem Bg(n:Nat)(p:aO):rS n (bI p):=fun s hs=>by simp[bI]at hs
theorem O9{n m:Nat}{z:Wk}(G:aW n m 304 z)(h7:n≤7)(h7':m≤7)(hs:oh z)(hc:rS n z){y:List Rat}(hy:Wd 301 y)(hl:y.length=(aB z.gc n).length):Wd 592707885 (mZ z.steps (dN n (aB z.gc n) y (aB z.gc n).length)):=by
 obtain⟨g1,g2⟩:=fm G;have sl:=G.S.st;have tA:=oU (u:=304) (c:=aD z.gc) (c':=7) (by omega);have tB:=iI (u:=304) (c:=aD z.gc) (c':=7) (r:=aD z.gr) (r':=7) (by omega) (by omega);have eA:qA 304 7=4980733:=by decide
 have eB:qB 304 7 7=79691776:=by decide
 have bw:=Nm (A:=4980733) (B:=79691776) (V:=301) (n:=n) (by omega) z.steps _ (uB (n:=n) (ks:=aB z.gc n) (by omega) hy (aB z.gc n).length (by omega)) (jn n _ y _) (fun s hm=>by
  obtain⟨k,hk,rfl⟩:=apn hm;rw[bR hk];obtain⟨a,b⟩:=G.W.st k hk;obtain⟨c,d⟩:=hc _ (dr hk);refine⟨ah a (by omega),hs _ (dr hk),c,fun t ht=>?_⟩;obtain⟨i,hi,rfl⟩:=apn ht;have:=b i hi;rw[bR hi]at ht ⊢;exact⟨ah this (by omega),(d _ ht).1,(d _ ht).2⟩)
 exact fun i hi=>by
  have:=ann (4980733+79691776+3) (show z.steps.length≤7 by omega);exact ah (bw i hi) (by omega)
theorem K7{n m:Nat}{z:Wk}{mx:Bool}(G:aW n m 304 z)(h7:n≤7)(h7':m≤7):Hj 79691776 4980733 (bM mx z):=by
 obtain⟨g1,g2⟩:=fm G;have tA:=oU (u:=304) (c:=aD z.gc) (c':=7) (by omega);have tB:=iI (u:=304) (c:=aD z.gc) (c':=7) (r:=aD z.gr) (r':=7) (by omega) (by omega);have eA:qA 304 7=4980733:=by decide
 have eB:qB 304 7 7=79691776:=by decide
 have nc:=G.S.nc;have nr:=G.S.nr;refine⟨ah G.W.sh (by omega),fun j hj=>?_,fun i hi=>?_,fun i hi k hk=>?_⟩
 ·have hj':j<(dD z z.aa.length).length:=hj;obtain⟨k,hk,e⟩:=xC (dr hj');obtain⟨a,b,c⟩:=G.W.co k hk;show qw _ (gt (dD z z.aa.length) j).cost∧qw _ (gt (dD z z.aa.length) j).low.at'∧qw _ (gt (dD z z.aa.length) j).high.at';rw[e];exact⟨ah c (by omega),ah a (by omega),ah b (by omega)⟩
 ·have hi':i<(cO z z.rows.length).length:=hi;obtain⟨k,hk,e⟩:=lR (dr hi');obtain⟨a,b⟩:=G.W.ro k hk;show qw _ (gt (cO z z.rows.length) i).low.at'∧qw _ (gt (cO z z.rows.length) i).high.at';rw[e];exact⟨ah a (by omega),ah b (by omega)⟩
 ·have hi':i<(cO z z.rows.length).length:=hi;obtain⟨q,hq,e⟩:=lR (dr hi');have hk:k<(gt (cO z z.rows.length) i).ab.length:=hk;show qw _ (gt (gt (cO z z.rows.length) i).ab k).num;rw[e]at hk ⊢;have hk':k<(gt z.rows q).ab.length:=by simpa[ic]using hk
  unfold ic;rw[dL _ hk'];exact ah (G.W.te q hq k hk') (by omega)
theorem pG{w:Wk}:∀{i:Nat} {r:Row},r∈cO w i→∃k,k<i∧gt w.gr k=false∧r=ic w (gt w.rows k)
 | 0,r,h=>by simp[cO]at h
 | i+1,r,h=>by
  unfold cO at h;split at h
  ·obtain⟨k,hk,e⟩:=pG h;exact⟨k,by omega,e⟩
  ·rename_i q;rcases List.mem_append.1 h with h | h
   ·obtain⟨k,hk,e⟩:=pG h;exact⟨k,by omega,e⟩
   ·exact⟨i,by omega,by simpa using q,by simpa using h⟩
theorem xU{n m u:Nat}{z:Wk}{mx:Bool}(G:aW n m u z)(h7:n≤7):∀i,i<(bM mx z).rows.length→(gt (bM mx z).rows i).ab.length≤7∧∀k,k<(gt (bM mx z).rows i).ab.length→0≤(gt (gt (bM mx z).rows i).ab k).aq∧(gt (gt (bM mx z).rows i).ab k).aq<(bM mx z).aa.length:=fun i hi=>by
 have nc:=G.S.nc;have hi':i<(cO z z.rows.length).length:=hi;obtain⟨q,hq,hg,e⟩:=pG (dr hi');have hbt:=G.S.te q (by rw[←G.S.nr];exact hq);have hlv:=G.S.lv q (by rw[←G.S.nr];exact hq) hg;have hl:=ko hbt;show(gt (cO z z.rows.length) i).ab.length≤7∧∀k,k<(gt (cO z z.rows.length) i).ab.length→0≤(gt (gt (cO z z.rows.length) i).ab k).aq∧(gt (gt (cO z z.rows.length) i).ab k).aq<(dD z z.aa.length).length;rw[e,gj];refine⟨by simp[ic];omega,fun k hk=>?_⟩;have hk':k<(gt z.rows q).ab.length:=by simpa[ic]using hk
 have hc:=cW hbt k hk';have hv:=hlv k hk';unfold ic;rw[dL _ hk',if_neg (by simp[hv])];have:=(mc z.gc hv (j:=z.aa.length) (by omega)).1;exact⟨by show(0:Int)≤((aB z.gc _).length:Nat);omega,by show(((aB z.gc _).length:Nat):Int)<_;omega⟩
theorem Hf{p:aO}(h7:p.aa.length≤7)(hb:∀i,i<p.rows.length→fB p.aa.length (-1) (gt p.rows i).ab=false):∀i,i<p.rows.length→(gt p.rows i).ab.length≤7∧∀k,k<(gt p.rows i).ab.length→0≤(gt (gt p.rows i).ab k).aq∧(gt (gt p.rows i).ab k).aq<p.aa.length:=fun i hi=>by
 have hl:=ko (hb i hi);exact⟨by omega,fun k hk=>by have:=cW (hb i hi) k hk;omega⟩
end Go.Ps
namespace Go.Proofs
open Go.Sv Go Go.Tb Go.Pl Go.Ut Go.Li Go.Ps
theorem tN(s:cR)(x:List ByteArray)(h:JT s)(hx:JM x):wD Tryz.prog 4 [dv s,.ro (x.map cZ)] (fun x=>x=.val (.bool true)):=by
 have gF:=Ef lZ A6 Fk;rw[iY,BN,BU BN,iY]at gF;have Gt:OA P1:=by rw[←iY];exact Hl A6
 have pw1:IX P1:=by rw[←iY];exact Bs _
 have pr1:Hj 301 301 P1:=by rw[←iY];exact Ii _
 have G1:=v9 P1 pw1 (lC kZ).2.2 AX;have G1':=sW P1 pr1 (lC kZ).2.2 AX;have gS1:=tm P1 Gt kZ G1 (by decide) (by decide);have sm41:JM [s4,s1]:=⟨by decide,fun x hx=>by
  have hx':x=s4∨x=s1:=by simpa using hx
  rcases hx' with e | e<;>rw[e]<;>decide⟩
 have gN:=s8 [s4,s1] sm41;have afw:JC [s4,s1]=true:=by decide +kernel
 rw[AW,if_pos afw,show cN [s4,s1]=[4,1] by simp[cN,n4,n1]]at gN;have okl41:OKl [4,1]:=⟨by decide,fun q hq=>by
  have hq':q=4∨q=1:=by simpa using hq
  rcases hq' with e | e<;>rw[e]
  ·exact cG (B6 (n:=4) (by omega) (by omega)) (by omega)
  ·exact cG (B6 (n:=1) (by omega) (by omega)) (by omega)⟩
 have w41:Wd 301 [4,1]:=by
  have:=AS [s4,s1]
  rwa [show cN [s4,s1]=[4,1] by simp[cN,n4,n1]]at this
 have gT1:=xR [4,1] okl41;have gD1:=uV [4,1] (by decide) (fun i hi=>ah (w41 i hi) (by omega));have gH1:=pS (A:=301) (B:=301) (V:=301) (by omega) (by omega) P1 (by decide) (by decide) pr1 (Hf (by decide) (lC kZ).2.2) [4,1] w41 rfl false;rw[AG]at gH1;simp only[amc,List.map_nil]at gT1 gD1 gH1;have g1:=AN x hx;rw[K2]at g1;have g3:=mM x hx.n (fun i hi=>hx.s _ (dr hi));refine nU Tryz.func4 rfl (by simp) (fun C hC hX hE=>?_);refine ae.go ?_;simp;refine alT (Ja) ?_;simp;refine alT (gF) ?_;simp;refine vZ gS1 (by simp) (fun y hy=>?_);obtain⟨z1,hz1, -,rfl⟩:=hy;obtain⟨n1',k1⟩:=Fe hz1;have Gz1:=vK (by omega) hz1 G1';have gB1:=BL (mx:=P1.max) Gz1 (by decide) (by decide) n1' (IG hz1 (Bb _)) (GB (by omega) hz1 G1' (Bg _ _)) [4,1] w41 k1.symm;have e1:mZ z1.steps (dN P1.aa.length (aB z1.gc P1.aa.length) [4,1] (aB z1.gc P1.aa.length).length)=[4,1]:=by
  rw[show(aB z1.gc P1.aa.length).length=2 from k1,Df hz1];exact CJ
 rw[e1]at gB1;simp;refine aZ gN (by simp[s4,s1]) ?_;simp;refine alT (gB1) ?_;simp;refine alT (gT1) ?_;simp;refine alT (gD1) ?_;simp;refine alT (gH1) ?_;simp;by_cases hf:qg s=true
 rotate_left 1
 ·refine ai (E0 s h (by simpa using hf)) (by simp) ?_;simp;refine alT (g1) ?_;simp;refine alT (g3) ?_;simp
 have gB:=Ef s h hf;by_cases ho:JK s=true
 rotate_left 1
 ·rw[show JK s=false by simpa using ho]at gB;refine alT (gB) ?_;simp;refine alT (g1) ?_;simp;refine alT (g3) ?_;simp
 rw[ho,BU ho]at gB;have fw:=Hl h;have pw:=Bs s;have pr:=Ii s;have nb:=Mw s;obtain⟨l1,l2⟩:=IN hf;generalize ch s=p at *;refine alT (gB) ?_;simp;refine alT (g1) ?_;simp;refine alT (g3) ?_;simp;have gv:=Fl p fw;by_cases c1:JC x=true
 rotate_left 1
 ·simp[c1]
 by_cases c2:lp x=true
 rotate_left 1
 ·simp[c1,c2]
 simp[c1,c2];refine alT (gv) ?_;by_cases hv:db p=0
 rotate_left 1
 ·have hv':=HM p hv;simp[hv'.1];done
 simp[hv];have eX:Kh x=(cN x).map cC:=by unfold Kh;rw[if_pos c1]
 rw[eX];have g4:=s8 x hx;rw[AW,if_pos c1]at g4;have yw:=AS x;have yl:=Ch x;have xl7:x.length≤40:=by
  unfold lp at c2;simp only[Bool.and_eq_true,decide_eq_true_eq]at c2;exact c2.1
 have hb:=(lC hv).2.2;have G0:=v9 p pw hb nb;have G0':=sW p pr hb nb;refine vZ (tm p fw hv G0 l1 l2) (by simp) (fun y hy=>?_);obtain⟨z,hz, -,rfl⟩:=hy;have Gz:=vK (by omega) hz G0';have hs:=IG hz (Bb p);have hc:=GB (by omega) hz G0' (Bg _ p);simp;refine alT (g4) ?_;simp;clear gF gS1 gN gT1 gD1 gH1 gB1 g1 g3 g4 gB gv;by_cases hn:z.no=true
 ·refine ai (FH p.aa.length p.max z hn (cN x)) (by simp) ?_;have e2:o6 p.aa.length p.max z=.agg [cU true,.val (.pointer none),.ro [],.ro [],iv p.aa.length]:=by unfold o6;rw[if_pos hn]
  rw[e2];simp;refine DS (x3 (c:=4) (by omega) (by omega) 4) hE hX (by simp) (fun v hv'=>?_);subst hv';simp;done
 have hn':z.no=false:=by simpa using hn
 have nc:=Gz.S.nc;have e2:o6 p.aa.length p.max z=.agg [cU false,.bU (cz (bM p.max z)) 0,.ro (w9 z.gc p.aa.length),.ro (z.steps.map gk),iv p.aa.length]:=by unfold o6;rw[if_neg hn];rfl
 by_cases hl:(cN x).length=(aB z.gc p.aa.length).length
 rotate_left 1
 ·refine ai (EZ p.aa.length p.max z hn' (cN x) hl) (by simp) ?_;rw[e2];simp[show ¬(x.length:Int)=(aB z.gc p.aa.length).length by omega];refine DS (x3 (c:=4) (by omega) (by omega) 4) hE hX (by simp) (fun v hv'=>?_);subst hv';simp;done
 have gK:=BL (mx:=p.max) Gz l1 l2 hn' hs hc (cN x) yw hl;have Xw:=O9 Gz l1 l2 hs hc yw hl;have law:=fun hh=>Jf (y:=cN x) (by omega) hb rfl G0' Gz hz hn' hh;have Xl:(mZ z.steps (dN p.aa.length (aB z.gc p.aa.length) (cN x) (aB z.gc p.aa.length).length)).length=p.aa.length:=by rw[uD,jn]
 generalize mZ z.steps (dN p.aa.length (aB z.gc p.aa.length) (cN x) (aB z.gc p.aa.length).length)=X at *;have gT:=xR X ⟨by omega,fun q hq=>by
  obtain⟨i,hi,rfl⟩:=apn hq;rw[bR hi];exact cG (Xw i hi) (by omega)⟩
 have gD:=uV X (by omega) (fun i hi=>ah (Xw i hi) (by omega));have so:=FK (mx:=p.max) (vK (by omega) hz G0) l1 l2;have sw:=K7 (mx:=p.max) Gz l1 l2;have slc:(bM p.max z).aa.length=(aB z.gc p.aa.length).length:=by
  show(dD z z.aa.length).length=_;rw[gj,nc]
 have slr:(bM p.max z).rows.length≤7:=by
  have:=qC z z.rows.length;have nr:=Gz.S.nr;show(cO z z.rows.length).length≤7;omega
 have kl:=ru z.gc p.aa.length;have sbd:∀i,i<(lD (bM p.max z)).rows.length→(gt (lD (bM p.max z)).rows i).ab.length≤7∧∀k,k<(gt (lD (bM p.max z)).rows i).ab.length→0≤(gt (gt (lD (bM p.max z)).rows i).ab k).aq∧(gt (gt (lD (bM p.max z)).rows i).ab k).aq<(lD (bM p.max z)).aa.length:=fun i hi=>by
  have hi':i<(bM p.max z).rows.length:=by simpa using hi
  rw[vU hi',pZ];exact xU Gz l1 i hi'
 have gS:=FR (bM p.max z) so;have gR:=F6 (bM p.max z) ⟨ah sw.sh (by omega),fun j hj=>⟨ah (sw.co j hj).1 (by omega),ah (sw.co j hj).2.1 (by omega),ah (sw.co j hj).2.2 (by omega)⟩,fun i hi=>⟨ah (sw.ro i hi).1 (by omega),ah (sw.ro i hi).2 (by omega)⟩,fun i hi k hk=>ah (sw.te i hi k hk) (by omega)⟩ (by omega) (by omega) (fun i hi=>by have:=(xU (mx:=p.max) Gz l1 i hi).1;omega);have sn:=NV sw (by omega);have gH:=pS (A:=4980733) (B:=79691776) (V:=301) (by omega) (by omega) (lD (bM p.max z)) (by simp;omega) (by simp;omega) sn sbd (cN x) yw (by simp;omega) true;rw[He]at gH;have gV:=u4 (A:=4980733) (B:=79691776) (V:=301) (by omega) (by omega) (lD (bM p.max z)) (by simp;omega) sn (cN x) yw (by simp;omega);rw[pZ,HN _ _ _ (amk _)]at gV;have gHp:=pS (A:=301) (B:=301) (V:=592707885) (by omega) (by omega) p l1 l2 pr (Hf l1 hb) X Xw Xl true;have gVp:=u4 (A:=301) (B:=301) (V:=592707885) (by omega) (by omega) p l1 pr X Xw Xl;have qv:=zE (V:=592707885) (by omega) pr Xw Xl p.aa.length (amk _);have hm:(301+592707885+1)*p.aa.length≤(301+592707885+1)*7:=ann _ l1;refine alT (gK) ?_;rw[e2];simp[show(x.length:Int)=(aB z.gc p.aa.length).length by omega];refine alT (gT) ?_;simp;refine alT (gD) ?_;simp[Xl];refine alT (gS) ?_;simp;refine alT (gR) ?_;simp;refine alT (gH) ?_;simp;by_cases hh:dq (bM p.max z) (cN x) true=true
 rotate_left 1
 ·simp[hh];done
 obtain⟨b1,b2⟩:=law hh;rw[slc]at gV;simp[hh];refine alT (gV) ?_;simp;refine alT (gVp) ?_;simp;rw[slc]at b2;rw[←b2];refine alT (LH (kj p X p.aa.length) (kj p X p.aa.length) (cG qv (by omega)) (cG qv (by omega))) ?_;rw[b1]at gHp;simp;refine alT (gHp) ?_;simp;done
end Go.Proofs

