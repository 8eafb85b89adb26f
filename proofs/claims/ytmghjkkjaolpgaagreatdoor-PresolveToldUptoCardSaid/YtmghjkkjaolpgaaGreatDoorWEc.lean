/- A text of the prover's own. -/
import Derived.Test.YtmghjkkjaolpgaaGreatDoorWIp
import Derived.Test.YtmghjkkjaolpgaaGreatDoorWIw
open Nat renaming zero_le→anA,sub_succ_lt_self→an2
open List renaming replicate→akQ
set_option maxRecDepth 10000
set_option maxHeartbeats 2000000
namespace Go.Ps
open Go Go.Sv Go.Pl Go.Proofs Go.Tb Go.Ut Go.Li
structure CP(n m u:Nat)(d:Wk→Nat→Bool × Wk)(g:Wk→List Bool)(N:Nat)(w0:Wk)(i:Nat)(w:Wk):Prop where
 G:bh n m u w
 no:w.no=false
 eq:bX d g N 0 w0=bX d g (N - i) i w
section
variable {n m u:Nat} {d:Wk→Nat→Bool × Wk} {g:Wk→List Bool} {N:Nat} {w0:Wk} {i:Nat} {w:Wk}
theorem CP.gone(h:CP n m u d g N w0 i w)(hi:i<N)(hg:gt (g w) i=true):CP n m u d g N w0 (i+1) w:=⟨h.G,h.no,by rw[h.eq,oH hi hg]⟩
theorem CP.yc(h:CP n m u d g N w0 i w)(hi:i<N)(hg:gt (g w) i=false)(h1:(d w i).1=false)(D:qR n m u w (d w i)):CP n m u d g N w0 (i+1) (d w i).2:=⟨D.sq,(D.yc h1).1,by rw[h.eq,qf hi hg h1]⟩
theorem CP.yes(h:CP n m u d g N w0 i w)(hi:i<N)(hg:gt (g w) i=false)(h1:(d w i).1=true):bX d g N 0 w0=d w i:=by rw[h.eq,rI hi hg h1]
theorem CP.fin(h:CP n m u d g N w0 N w):bX d g N 0 w0=(false,w):=by rw[h.eq,u9]
end
theorem F6{mx:Bool}{n m u:Nat}(hu:8≤u){w:Wk}(h:bh n m u w)(hn:w.no=false){j k:Nat}(hj:j<n)(hg:gt w.gc j=false)(hk:k=1∨k=4∨k=5):qR n m u w (j7 mx k w j):=by
 rcases hk with rfl | rfl | rfl
 ·exact yn h
 ·exact vM hu h hn hj hg
 ·exact uD hu h hn hj hg
theorem Ef{n m u:Nat}(hu:8≤u){w:Wk}(h:bh n m u w)(hn:w.no=false){i k:Nat}(hi:i<m)(hg:gt w.gr i=false)(hk:k=1∨k=2∨k=3∨k=6∨k=7):qR n m u w (kX k w i):=by
 rcases hk with rfl | rfl | rfl | rfl | rfl
 ·exact Dh h
 ·exact wA h hn hi hg
 ·exact uC hu h hn hi hg
 ·exact sC h hn hi hg
 ·exact wI hu h hn hi hg
theorem Ev{mx:Bool}{w:Wk}{k:Nat}{q:Bool × Wk}(hk:k=1∨k=4∨k=5)(h:bX (j7 mx k) Wk.gc w.ae.length 0 w=q)(hq:q.1=true):ij mx w k=q:=by
 rcases hk with rfl | rfl | rfl
 ·show xA (bX (j7 mx 1) Wk.gc w.ae.length 0 w) _=q;rw[h,yU hq]
 ·exact h
 ·exact h
theorem Ft{mx:Bool}{w w1:Wk}(h:bX (j7 mx 1) Wk.gc w.ae.length 0 w=(false,w1)):ij mx w 1=bX (kX 1) Wk.gr w1.rows.length 0 w1:=by
 show xA (bX (j7 mx 1) Wk.gc w.ae.length 0 w) (fun w=>bX Ps.xK Wk.gr w.rows.length 0 w)=_;rw[h];rfl
structure YT where
 i:Nat
 w:Wk
end Go.Ps
namespace Go.Proofs
open Go.Sv Go Go.Tb Go.Pl Go.Ut Go.Li Go.Ps
theorem ER{n m u:Nat}{w:Wk}{mx:Bool}(G:bh n m u w)(hn:w.no=false)(hu8:8≤u)(hu:u≤2400)(h7:n≤7)(h7':m≤7){k:Nat}(hk:1≤k∧k≤7) :
  ji Tryz.prog 41 [.ptr 0 0 0,iv k] (aE mx w) [5] (iu mx (ij mx w k)):=by
 have nc:=G.S.nc;refine bP Tryz.func41 rfl (by simp) (fun C hC=>?_);have hC:C.fx=[0,1,2,3,4]:=hC;refine aa.cutAt 2 (fun st=>∃w1,bh n m u w1∧w1.no=false∧(((k=4∨k=5)∧ij mx w k=(false,w1))∨((k=1∨k=2∨k=3∨k=6∨k=7)∧ij mx w k=bX (kX k) Wk.gr m 0 w1))∧st=⟨69,[(0,.ptr 0 0 0),(1,iv k)],aE mx w1⟩) ?_ ?_
 ·simp only[ar,aq,aE,aQ];by_cases hc:k=1∨k=4∨k=5
  ·have key:∀w1,bh n m u w1→bX (j7 mx k) Wk.gc n 0 w=(false,w1)→(((k=4∨k=5)∧ij mx w k=(false,w1))∨((k=1∨k=2∨k=3∨k=6∨k=7)∧ij mx w k=bX (kX k) Wk.gr m 0 w1)):=fun w1 g1 h=>by
    rw[←nc]at h;rcases hc with rfl | rfl | rfl
    ·exact .inr ⟨.inl rfl,by rw[Ft h,g1.S.nr]⟩
    ·exact .inl ⟨.inl rfl,h⟩
    ·exact .inl ⟨.inr rfl,h⟩
   have kyes:∀q,bX (j7 mx k) Wk.gc n 0 w=q→q.1=true→ij mx w k=q:=fun q h hq=>Ev hc (by rw[nc];exact h) hq;have kdid:∀w' j,bh n m u w'→w'.no=false→j<n→gt w'.gc j=false→qR n m u w' (j7 mx k w' j):=fun w' j g h1 h2 h3=>F6 hu8 g h1 h2 h3 hc;have kcall:∀w' j,bh n m u w'→w'.no=false→j<n→ji Tryz.prog 77 [.ptr 0 0 0,iv k,iv j] (aE mx w') [5] (iu mx (j7 mx k w' j)):=fun w' j g h1 h2=>zO g h1 hu8 hu h7 h7' h2 hc;rcases hc with rfl | rfl | rfl
   ·simp;refine aa.bG (ι:=YT) (fun⟨j,w'⟩=>⟨69,[(0,.ptr 0 0 0),(1,iv 1),(5,iv j)],aE mx w'⟩)
     (fun⟨j,w'⟩=>j≤n∧CP n m u (j7 mx 1) Wk.gc n w j w') (fun⟨j,w'⟩=>n - j) ⟨0,w⟩ ?_ ?_ ?_
    ·exact⟨anA _,G,hn,rfl⟩
    ·simp[aw,hC,aE,aQ];done
    rintro⟨j,w'⟩ ⟨hj,hI⟩;have nc':=hI.G.S.nc;have ng':=hI.G.S.gc;simp only[aE,aQ];by_cases az:j<n
    ·have lg:=bI (l:=w'.gc) (i:=j) (by omega);by_cases hg:gt w'.gc j=true
     ·simp(disch:=omega)[nc',ng',az,lg,hg];repeat refine akI ?_
      exact⟨⟨j+1,w'⟩,⟨az,hI.gone az hg⟩,an2 _ _ az,Le.bA (by simp(disch:=omega)[aw,hC,aN,aE,aQ,nc',ng'])⟩
     ·have hg':gt w'.gc j=false:=by simpa using hg
      have D:=kdid w' j hI.G hI.no az hg';simp(disch:=omega)[nc',ng',az,lg,hg'];repeat refine akI ?_
      refine cN (kcall w' j hI.G hI.no az) [0,1,2,3,4,5] (by simp) (by simp[aE,aQ,nc',ng']) (by simp) (by simp[hC,aE,aQ]) (by simp) ?_;rintro T y ⟨rfl,w2,rfl,h1,h2⟩;simp only[aE,aQ];by_cases hd:(j7 mx 1 w' j).1=true
      ·simp[hd];have hq:=kyes _ (hI.yes az hg' hd) hd;rw[hq];have fin:iu mx (j7 mx 1 w' j) (aE mx w2) (bZ true):=⟨by rw[hd],w2,rfl,h1,h2⟩;exact⟨_,_,fin,rfl,by simp[aE,aQ,dX],by simp[aE],.inr ⟨rfl,by simp[aE,eP,aQ]⟩⟩
      ·have hd':(j7 mx 1 w' j).1=false:=by simpa using hd
       have hI2:=hI.yc az hg' hd' D;have e2:=h2 hI2.no;subst e2;have nc2:=hI2.G.S.nc;simp[hd'];exact⟨⟨j+1,_⟩,⟨az,hI2⟩,an2 _ _ az,Le.bA (by simp(disch:=omega)[aw,hC,aN,aE,aQ,nc2])⟩
    ·obtain rfl:j=n:=by omega
     simp(disch:=omega)[nc'];repeat refine akI ?_
     exact⟨_,⟨w',hI.G,hI.no,by simpa using key w' hI.G hI.fin,rfl⟩,by simp[aw,hC,aE,aQ,nc']⟩
   ·simp;refine aa.bG (ι:=YT) (fun⟨j,w'⟩=>⟨69,[(0,.ptr 0 0 0),(1,iv 4),(5,iv j)],aE mx w'⟩)
     (fun⟨j,w'⟩=>j≤n∧CP n m u (j7 mx 4) Wk.gc n w j w') (fun⟨j,w'⟩=>n - j) ⟨0,w⟩ ?_ ?_ ?_
    ·exact⟨anA _,G,hn,rfl⟩
    ·simp[aw,hC,aE,aQ];done
    rintro⟨j,w'⟩ ⟨hj,hI⟩;have nc':=hI.G.S.nc;have ng':=hI.G.S.gc;simp only[aE,aQ];by_cases az:j<n
    ·have lg:=bI (l:=w'.gc) (i:=j) (by omega);by_cases hg:gt w'.gc j=true
     ·simp(disch:=omega)[nc',ng',az,lg,hg];repeat refine akI ?_
      exact⟨⟨j+1,w'⟩,⟨az,hI.gone az hg⟩,an2 _ _ az,Le.bA (by simp(disch:=omega)[aw,hC,aN,aE,aQ,nc',ng'])⟩
     ·have hg':gt w'.gc j=false:=by simpa using hg
      have D:=kdid w' j hI.G hI.no az hg';simp(disch:=omega)[nc',ng',az,lg,hg'];repeat refine akI ?_
      refine cN (kcall w' j hI.G hI.no az) [0,1,2,3,4,5] (by simp) (by simp[aE,aQ,nc',ng']) (by simp) (by simp[hC,aE,aQ]) (by simp) ?_;rintro T y ⟨rfl,w2,rfl,h1,h2⟩;simp only[aE,aQ];by_cases hd:(j7 mx 4 w' j).1=true
      ·simp[hd];have hq:=kyes _ (hI.yes az hg' hd) hd;rw[hq];have fin:iu mx (j7 mx 4 w' j) (aE mx w2) (bZ true):=⟨by rw[hd],w2,rfl,h1,h2⟩;exact⟨_,_,fin,rfl,by simp[aE,aQ,dX],by simp[aE],.inr ⟨rfl,by simp[aE,eP,aQ]⟩⟩
      ·have hd':(j7 mx 4 w' j).1=false:=by simpa using hd
       have hI2:=hI.yc az hg' hd' D;have e2:=h2 hI2.no;subst e2;have nc2:=hI2.G.S.nc;simp[hd'];exact⟨⟨j+1,_⟩,⟨az,hI2⟩,an2 _ _ az,Le.bA (by simp(disch:=omega)[aw,hC,aN,aE,aQ,nc2])⟩
    ·obtain rfl:j=n:=by omega
     simp(disch:=omega)[nc'];repeat refine akI ?_
     exact⟨_,⟨w',hI.G,hI.no,by simpa using key w' hI.G hI.fin,rfl⟩,by simp[aw,hC,aE,aQ,nc']⟩
   ·simp;refine aa.bG (ι:=YT) (fun⟨j,w'⟩=>⟨69,[(0,.ptr 0 0 0),(1,iv 5),(5,iv j)],aE mx w'⟩)
     (fun⟨j,w'⟩=>j≤n∧CP n m u (j7 mx 5) Wk.gc n w j w') (fun⟨j,w'⟩=>n - j) ⟨0,w⟩ ?_ ?_ ?_
    ·exact⟨anA _,G,hn,rfl⟩
    ·simp[aw,hC,aE,aQ];done
    rintro⟨j,w'⟩ ⟨hj,hI⟩;have nc':=hI.G.S.nc;have ng':=hI.G.S.gc;simp only[aE,aQ];by_cases az:j<n
    ·have lg:=bI (l:=w'.gc) (i:=j) (by omega);by_cases hg:gt w'.gc j=true
     ·simp(disch:=omega)[nc',ng',az,lg,hg];repeat refine akI ?_
      exact⟨⟨j+1,w'⟩,⟨az,hI.gone az hg⟩,an2 _ _ az,Le.bA (by simp(disch:=omega)[aw,hC,aN,aE,aQ,nc',ng'])⟩
     ·have hg':gt w'.gc j=false:=by simpa using hg
      have D:=kdid w' j hI.G hI.no az hg';simp(disch:=omega)[nc',ng',az,lg,hg'];repeat refine akI ?_
      refine cN (kcall w' j hI.G hI.no az) [0,1,2,3,4,5] (by simp) (by simp[aE,aQ,nc',ng']) (by simp) (by simp[hC,aE,aQ]) (by simp) ?_;rintro T y ⟨rfl,w2,rfl,h1,h2⟩;simp only[aE,aQ];by_cases hd:(j7 mx 5 w' j).1=true
      ·simp[hd];have hq:=kyes _ (hI.yes az hg' hd) hd;rw[hq];have fin:iu mx (j7 mx 5 w' j) (aE mx w2) (bZ true):=⟨by rw[hd],w2,rfl,h1,h2⟩;exact⟨_,_,fin,rfl,by simp[aE,aQ,dX],by simp[aE],.inr ⟨rfl,by simp[aE,eP,aQ]⟩⟩
      ·have hd':(j7 mx 5 w' j).1=false:=by simpa using hd
       have hI2:=hI.yc az hg' hd' D;have e2:=h2 hI2.no;subst e2;have nc2:=hI2.G.S.nc;simp[hd'];exact⟨⟨j+1,_⟩,⟨az,hI2⟩,an2 _ _ az,Le.bA (by simp(disch:=omega)[aw,hC,aN,aE,aQ,nc2])⟩
    ·obtain rfl:j=n:=by omega
     simp(disch:=omega)[nc'];repeat refine akI ?_
     exact⟨_,⟨w',hI.G,hI.no,by simpa using key w' hI.G hI.fin,rfl⟩,by simp[aw,hC,aE,aQ,nc']⟩
  ·have hk2:k=2∨k=3∨k=6∨k=7:=by omega
   have e1:ij mx w k=bX (kX k) Wk.gr m 0 w:=by
    rw[←G.S.nr];rcases hk2 with rfl | rfl | rfl | rfl<;>rfl
   have n1:¬(k:Int)=1:=by omega
   have n2:¬(k:Int)=4:=by omega
   have n3:¬(k:Int)=5:=by omega
   simp[n1,n2,n3];exact⟨_,⟨w,G,hn,.inr ⟨.inr hk2,e1⟩,rfl⟩,by simp[aw,hC,aE,aQ]⟩
 rintro st ⟨w1,G1,hn1,hk1,rfl⟩;simp only[ao,al];rcases hk1 with⟨hk1,e1⟩ | ⟨hk1,e1⟩
 ·rw[e1];have c1:((k:Int)=4)∨((k:Int)=5):=by omega
  refine aa.go ?_;simp only[aE,aQ];have fin:iu mx (false,w1) _ _:=iu.same;rcases hk1 with rfl | rfl
  ·simp;exact⟨_,_,fin,rfl,by simp[aE,aQ,dX],by simp[aE],.inr ⟨rfl,by simp[aE,eP,aQ]⟩⟩
  ·simp;exact⟨_,_,fin,rfl,by simp[aE,aQ,dX],by simp[aE],.inr ⟨rfl,by simp[aE,eP,aQ]⟩⟩
 ·rw[e1];clear e1 hn G;have n2:¬(k:Int)=4:=by omega
  have n3:¬(k:Int)=5:=by omega
  refine aa.go ?_;simp only[aE,aQ];simp[n2,n3];refine aa.bG (ι:=YT) (fun⟨i,w'⟩=>⟨69,[(0,.ptr 0 0 0),(1,iv k),(7,iv i)],aE mx w'⟩)
   (fun⟨i,w'⟩=>i≤m∧CP n m u (kX k) Wk.gr m w1 i w') (fun⟨i,w'⟩=>m - i) ⟨0,w1⟩ ?_ ?_ ?_
  ·exact⟨anA _,G1,hn1,rfl⟩
  ·simp[aw,hC,aE,aQ];done
  rintro⟨i,w'⟩ ⟨hi,hI⟩;have nr':=hI.G.S.nr;have ng':=hI.G.S.gr;simp only[aE,aQ];by_cases az:i<m
  ·have lg:=bI (l:=w'.gr) (i:=i) (by omega);by_cases hg:gt w'.gr i=true
   ·simp(disch:=omega)[nr',ng',az,lg,hg];repeat refine akI ?_
    exact⟨⟨i+1,w'⟩,⟨az,hI.gone az hg⟩,an2 _ _ az,Le.bA (by simp(disch:=omega)[aw,hC,aN,aE,aQ,nr',ng'])⟩
   ·have hg':gt w'.gr i=false:=by simpa using hg
    have D:=Ef hu8 hI.G hI.no az hg' hk1;have gI:=EY (mx:=mx) hI.G hI.no hu8 hu h7 h7' az hg' hk1;simp(disch:=omega)[nr',ng',az,lg,hg'];repeat refine akI ?_
    refine cN gI [0,1,2,3,4,5] (by simp) (by simp[aE,aQ,nr',ng']) (by simp) (by simp[hC,aE,aQ]) (by simp) ?_;rintro T y ⟨rfl,w2,rfl,h1,h2⟩;simp only[aE,aQ];by_cases hd:(kX k w' i).1=true
    ·simp[hd];rw[hI.yes az hg' hd];have fin:iu mx (kX k w' i) (aE mx w2) (bZ true):=⟨by rw[hd],w2,rfl,h1,h2⟩;exact⟨_,_,fin,rfl,by simp[aE,aQ,dX],by simp[aE],.inr ⟨rfl,by simp[aE,eP,aQ]⟩⟩
    ·have hd':(kX k w' i).1=false:=by simpa using hd
     have hI2:=hI.yc az hg' hd' D;have e2:=h2 hI2.no;subst e2;have nr2:=hI2.G.S.nr;simp[hd'];exact⟨⟨i+1,_⟩,⟨az,hI2⟩,an2 _ _ az,Le.bA (by simp(disch:=omega)[aw,hC,aN,aE,aQ,nr2])⟩
  ·obtain rfl:i=m:=by omega
   rw[hI.fin];simp(disch:=omega)[nr'];repeat refine akI ?_
   have fin:iu mx (false,w') _ _:=iu.same;exact⟨_,_,fin,rfl,by simp[aE,aQ,dX,nr'],by simp[aE],.inr ⟨rfl,by simp[aE,eP,aQ]⟩⟩
end Go.Proofs
set_option maxRecDepth 10000
set_option maxHeartbeats 2000000
namespace Go.Ps
open Go Go.Sv Go.Pl Go.Proofs Go.Tb Go.Ut Go.Li
def zb(g:List Bool)(n:Nat):Nat→List Int
 | 0=>akQ n 0
 | j+1=>if gt g j=true then zb g n j else(zb g n j).set j ((cE g j).length:Nat)
theorem oK(g:List Bool)(n:Nat):∀j,(zb g n j).length=n
 | 0=>by simp[zb]
 | j+1=>by unfold zb;split<;>simp[oK g n j]
theorem HL(g:List Bool)(n:Nat){c:Nat}(hc:c<n):∀j,gt (zb g n j) c=if c<j∧gt g c=false then((cE g c).length:Int) else 0
 | 0=>by
  have:gt (akQ n (0:Int)) c=0:=by rw[←ee (by simpa using hc)];simp
  simp[zb,this]
 | j+1=>by
  have ih:=HL g n hc j;unfold zb;split
  ·rename_i h;rw[ih];by_cases e:c=j
   ·subst e;simp[h]
   ·by_cases q:c<j
    ·simp[q,show c<j+1 by omega]
    ·simp[q,show ¬c<j+1 by omega]
  ·rename_i h;rw[Ut.gN (by rw[oK];exact hc),ih];by_cases e:c=j
   ·subst e;simp[h]
   ·by_cases q:c<j
    ·simp[q,show c<j+1 by omega,show j≠c by omega]
    ·simp[q,show ¬c<j+1 by omega,show j≠c by omega]
def wN(mx:Bool)(w:Wk):SV:=.agg (bZ mx::((bL w.sh).cells++[.ro (w.ae.map cw),.ro (w.rows.map cQ),.ro (w.gc.map bZ),.ro (w.gr.map bZ),.ro (w.steps.map jo),bZ w.no]))
def uh(g:List Bool)(j:Nat):List SV:=(cE g j).map fun k:Nat=>iv k
@[simp] theorem abt(g:List Bool)(j:Nat):(uh g j).length=(cE g j).length:=by simp[uh]
def lu(mx:Bool)(w:Wk):SV:=.agg (bZ false::bZ mx::((bL w.sh).cells++[.ro ((fV w w.ae.length).map cw),.ro ((fL w w.rows.length).map cQ),.ro (uh w.gc w.ae.length),.ro (w.steps.map jo)]))
def kR(mx:Bool)(w:Wk)(j i:Nat):aJ:=[some ⟨10,[.agg [.val (.bool false),.val (.bool false),.val (.bool false),.val (.slice none 0 0),.val (.bool false),.val (.slice none 0 0),.val (.slice none 0 0),.val (.slice none 0 0),.val (.slice none 0 0),.val (.slice none 0 0)]],false⟩,
 some ⟨10,[.agg (bZ false::bZ mx::((bL w.sh).cells++[.view 4 0 (fV w j).length,.view 5 0 (fL w i).length,.view 3 0 (cE w.gc j).length,.ro (w.steps.map jo)]))],false⟩,
 some ⟨1,(zb w.gc w.ae.length j).map iv,false⟩,some ⟨1,uh w.gc j,false⟩,some ⟨16,(fV w j).map cw,false⟩,some ⟨13,(fL w i).map cQ,false⟩]
@[simp] theorem abV(k:Nat)(g:List Bool)(j:Nat):SV.mb k (uh g j)=true:=by unfold uh;simp
@[simp] theorem Vr(k:Nat)(g:List Bool)(j:Nat):SV.aY k (uh g j)=false:=by unfold uh;simp
@[simp] theorem SD(g:List Bool)(j:Nat):SV.bf (uh g j)=true:=by unfold uh;simp
@[simp] theorem Wu(g:List Bool)(j:Nat):List.take (cE g j).length (uh g j)=uh g j:=List.take_of_length_le (by simp)
theorem Kj{g:List Bool}{j:Nat}(h:gt g j=true):uh g (j+1)=uh g j:=by unfold uh;rw[uX h]
theorem My{g:List Bool}{j:Nat}(h:gt g j=false):uh g (j+1)=uh g j++[iv j]:=by unfold uh;rw[ye h];simp
theorem H3(l:List Int)(i:Nat)(x:Int):bl (l.map iv) i (.val (.int .i64 x))=(l.set i x).map iv:=u5 iv l i x
theorem JX{g:List Bool}{n j:Nat}(h:gt g j=true):zb g n (j+1)=zb g n j:=by show(if _ then _ else _)=_;rw[if_pos h]
theorem NI{g:List Bool}{n j:Nat}(h:gt g j=false):zb g n (j+1)=(zb g n j).set j ((cE g j).length:Nat):=by show(if _ then _ else _)=_;rw[if_neg (by simp[h])]
end Go.Ps
namespace Go.Proofs
open Go.Sv Go Go.Tb Go.Pl Go.Ut Go.Li Go.Ps
theorem Fw{n m u:Nat}{w:Wk}{mx:Bool}(G:bh n m u w)(h7:n≤7)(h7':m≤7):aF Tryz.prog 42 [.bK (wN mx w) 0] (lu mx w):=by
 have nc:=G.S.nc;have nr:=G.S.nr;have ngc:=G.S.gc;have ngr:=G.S.gr;refine fg Tryz.func42 rfl (by simp) (fun C hC=>?_);refine aa.wk ?_;refine aa.cutAt 5 (fun st=>st=⟨144,[(0,.bK (wN mx w) 0),(2,.ptr 0 0 0),(3,.ptr 1 0 0),(4,.view 2 0 n)],[some ⟨10,[.agg [.val (.bool false),.val (.bool false),.val (.bool false),.val (.slice none 0 0),.val (.bool false),.val (.slice none 0 0),.val (.slice none 0 0),.val (.slice none 0 0),.val (.slice none 0 0),.val (.slice none 0 0)]],false⟩,some ⟨10,[.agg (bZ false::bZ mx::((bL w.sh).cells++[.val (.slice none 0 0),.val (.slice none 0 0),.val (.slice none 0 0),.ro (w.steps.map jo)]))],false⟩,some ⟨1,(akQ n 0).map iv,false⟩]⟩) ?_ ?_
 ·simp only[ar,aq,wN];simp;refine⟨by omega,?_⟩;simp[aw,hC,nc];done
 rintro st rfl;simp only[ao,al];refine aa.le (Le.bB 1 8 1 rfl rfl rfl rfl (by simp)) ?_;refine aa.le (Le.bB 1 6 16 rfl rfl rfl rfl (by simp)) ?_;refine aa.le (Le.bB 1 7 13 rfl rfl rfl rfl (by simp)) ?_;simp[aK,ax,bl];refine aa.cutAt 1 (fun st=>st=⟨144,[(0,.bK (wN mx w) 0),(2,.ptr 0 0 0),(3,.ptr 1 0 0),(4,.view 2 0 n)],kR mx w w.ae.length 0⟩) ?_ ?_
 ·simp only[ar,aq];simp only[wN];simp;refine aa.bG (ι:=Nat) (fun j=>⟨144,[(0,.bK (wN mx w) 0),(2,.ptr 0 0 0),(3,.ptr 1 0 0),(4,.view 2 0 n),(5,iv j)],kR mx w j 0⟩)
   (fun j=>j≤w.ae.length) (fun j=>w.ae.length - j) 0 (by omega) ?_ ?_
  ·simp[aw,hC,wN,kR,zb,cE,fV,fL,uh,nc];done
  rintro j hj;by_cases az:j<w.ae.length
  ·have hjg:j<w.gc.length:=by omega
   have lc:=dq az;have lg:=bI hjg;have kl:=rB w.gc j;have cl:=si w j;have pl:=oK w.gc w.ae.length j;have hjn:j<n:=by omega
   have hjp:j<(zb w.gc w.ae.length j).length:=by omega
   have lp:=k8 hjp;simp only[kR,wN];by_cases hg:gt w.gc j=true
   ·simp(disch:=omega)[az,lc,hjg,lg,hg];repeat refine akI ?_
    exact⟨j+1,by omega,by omega,Le.bA (by simp(disch:=omega)[aw,hC,aN,kR,Kj hg,uX hg,xL hg,JX hg])⟩
   ·have hg':gt w.gc j=false:=by simpa using hg
    have pno:=NI (n:=w.ae.length) hg';obtain⟨P2,eP2⟩:∃P2,(zb w.gc w.ae.length j).set j ((cE w.gc j).length:Nat)=P2:=⟨_,rfl⟩;have lsP:bl ((zb w.gc w.ae.length j).map iv) j (.val (.int .i64 ((cE w.gc j).length:Nat)))=P2.map iv:=by rw[H3,eP2]
    rw[eP2]at pno;simp(disch:=omega)[az,lc,hjg,lg,hg',hjn,hjp,lp,lsP];repeat refine akI ?_
    refine⟨⟨by simp[hC],by omega⟩,?_⟩;refine aa.akJ (.qs [0,1,2,3,4,5,6,7,8,9,10]<|.l 11 []<|.l 12 [1000000]<|.qs [13,14]<|.l 15 [1,1000000]<|.nil) ?_;simp(disch:=omega)[az,lc,hjg,lg,hg'];repeat refine akI ?_
    refine⟨⟨by simp[hC],by omega⟩,?_⟩;exact⟨j+1,by omega,by omega,Le.bA (by simp(disch:=omega)[aw,hC,aN,kR,My hg',ye hg',Bh hg',pno,cl])⟩
  ·obtain rfl:j=w.ae.length:=by omega
   simp only[kR,wN];simp;simp[aw,hC,kR,wN];done
 rintro st rfl;simp only[ao,al];refine aa.cutAt 1 (fun st=>st=⟨144,[(2,.ptr 0 0 0),(3,.ptr 1 0 0)],kR mx w w.ae.length w.rows.length⟩) ?_ ?_
 ·simp only[ar,aq];simp only[wN];simp;refine aa.bG (ι:=Nat) (fun i=>⟨144,[(0,.bK (wN mx w) 0),(2,.ptr 0 0 0),(3,.ptr 1 0 0),(4,.view 2 0 n),(6,iv i)],kR mx w w.ae.length i⟩)
   (fun i=>i≤w.rows.length) (fun i=>w.rows.length - i) 0 (by omega) ?_ ?_
  ·simp[aw,hC,wN,kR];done
  rintro i hi;by_cases az:i<w.rows.length
  ·have hig:i<w.gr.length:=by omega
   have lr:=eU az;have lg:=bI hig;have rl:=rK w i;have hbt:=G.S.te i (by omega);have tl7:=ic hbt;have av:=fun k hk=>gw hbt k hk;by_cases hg:gt w.gr i=true
   ·simp only[kR,wN];simp(disch:=omega)[az,lr,hig,lg,hg];repeat refine akI ?_
    exact⟨i+1,by omega,by omega,Le.bA (by simp(disch:=omega)[aw,hC,aN,kR,fL,hg])⟩
   have hg':gt w.gr i=false:=by simpa using hg
   have rs:fL w (i+1)=fL w i++[iW w (gt w.rows i)]:=by show(if _ then _ else _)=_;rw[if_neg hg]
   generalize gt w.rows i=r at *;have rtl:(iW w r).ab.length=r.ab.length:=by simp[iW]
   simp only[kR,wN];simp(disch:=omega)[az,lr,hig,lg,hg'];repeat refine akI ?_
   refine aa.le (Le.bB 7 1 1 rfl rfl rfl rfl (by simp)) ?_;simp[aK,ax,bl];refine aa.D8 (ι:=Nat) (fun k=>⟨144,[(0,.bK (wN mx w) 0),(2,.ptr 0 0 0),(3,.ptr 1 0 0),(4,.view 2 0 n),(6,iv i),(7,.ptr 6 0 0),(8,.ptr 7 0 0),(9,iv k)],kR mx w w.ae.length i++[some ⟨13,[cQ r],false⟩,some ⟨13,[.agg (.val (.string r.name)::.view 8 0 k::.ro (kd r.ab)::((fC r.low).cells++(fC r.high).cells))],false⟩,some ⟨1,kS ((iW w r).ab.take k),false⟩]⟩)
    (fun k=>k≤r.ab.length) (fun k=>r.ab.length - k) 0 (by omega) ?_ ?_
   ·simp[aw,hC,wN,kR,kS,kd];done
   rintro k hk;simp only[kR,wN,List.cons_append,List.nil_append];by_cases hkl:k<r.ab.length
   ·have lt:=gx (r:=r) hkl;obtain⟨b1,b2,b3,b4⟩:=av k hkl;have pa:=HL w.gc w.ae.length (c:=(gt r.ab k).aI.toNat) (by omega) w.ae.length;have lp:=k8 (l:=zb w.gc w.ae.length w.ae.length) (i:=(gt r.ab k).aI.toNat) (by rw[oK];omega);have tk:=fJ (l:=(iW w r).ab) (i:=k) (by omega);have tg:gt (iW w r).ab k=⟨gt (zb w.gc w.ae.length w.ae.length) (gt r.ab k).aI.toNat,(gt r.ab k).num⟩:=by
     unfold iW;rw[jq _ hkl,pa];by_cases hq:gt w.gc (gt r.ab k).aI.toNat=true
     ·simp[hq]
     ·have hq':gt w.gc (gt r.ab k).aI.toNat=false:=by simpa using hq
      simp[hq',show(gt r.ab k).aI.toNat<w.ae.length by omega]
    rw[tg]at tk;have tml:min k (iW w r).ab.length=k:=by omega
    obtain⟨c,ec⟩:∃c:Nat,(gt r.ab k).aI=c:=⟨(gt r.ab k).aI.toNat,by omega⟩;have ec':(gt r.ab k).aI.toNat=c:=by omega
    rw[ec']at lp tk;have hcn:c<n:=by omega
    refine aa.go ?_;simp(disch:=omega)[hkl,lt,ec,hcn,lp,tml,oK];repeat refine akI ?_
    refine aa.akJ (.qs [0,1,2,3,4,5,6,7,8,9]<|.l 10 []<|.l 11 [1000000]<|.qs [12]<|.l 13 [7,1000000]<|.nil) ?_;simp(disch:=omega)[hkl,lt,ec,hcn,lp,tml,oK];repeat refine akI ?_
    refine⟨⟨by simp[hC],by omega⟩,?_⟩;exact⟨k+1,by omega,by omega,Le.bA (by simp(disch:=omega)[aw,hC,aN,kR,tk,AQ])⟩
   ·obtain rfl:k=r.ab.length:=by omega
    rw[←rtl,List.take_length];refine aa.je 8 rfl (by simp) ?_;simp[dH,aK];refine aa.go ?_;have eR:SV.agg (SV.val (Value.string r.name)::SV.ro (kS (iW w r).ab)::SV.ro (kd r.ab)::((fC r.low).cells++(fC r.high).cells))=cQ (iW w r):=by
     have:kd r.ab=kd (iW w r).ab:=by simp[kd,iW]
     rw[this];rfl
    simp(disch:=omega)[rtl,eR];repeat refine akI ?_
    refine⟨⟨by simp[hC],by omega⟩,?_⟩;exact⟨i+1,by omega,by omega,Le.bA (by simp(disch:=omega)[aw,hC,aN,kR,rs,eR])⟩
  ·obtain rfl:i=w.rows.length:=by omega
   simp only[kR,wN];simp;simp[aw,hC,kR,wN];done
 rintro st rfl;simp only[ao,al];simp only[kR];refine aa.je 3 rfl (by simp) ?_;simp[dH,aK];refine aa.je 4 rfl (by simp) ?_;simp[dH,aK];refine aa.je 5 rfl (by simp) ?_;simp[dH,aK];refine aa.go ?_;simp;refine⟨_,Le.refl _ _,?_⟩;simp;exact cW _ _ (by simp)
end Go.Proofs
set_option maxRecDepth 10000
set_option maxHeartbeats 2000000
namespace Go.Ps
open Go Go.Sv Go.Pl Go.Proofs Go.Tb Go.Ut Go.Li
def M7(p:aV):aJ:=[none,none,none,some ⟨16,p.ae.map cw,false⟩,some ⟨13,p.rows.map cQ,false⟩]
def Vn(p:aV):SV:=.agg (bZ p.max::((bL p.shift).cells++[.view 3 0 p.ae.length,.view 4 0 p.rows.length]))
def Co(mx:Bool)(w:Wk):SV:=if w.no=true then .agg [bZ true,bZ false,bZ false,.ro [],bZ false,.ro [],.ro [],.ro [],.ro [],.ro []] else lu mx w
structure LSd where
 b:Bool
 w:Wk
 w':Wk
structure LRu where
 i:Nat
 b:Bool
 w:Wk
 w':Wk
def eH:SV:=.agg [.val (.bool false),.val (.bool false),.val (.bool false),.val (.slice none 0 0),.val (.bool false),.val (.slice none 0 0),.val (.slice none 0 0),.val (.slice none 0 0),.val (.slice none 0 0),.val (.slice none 0 0)]
@[simp] theorem QR:eH.eW=10:=rfl
@[simp] theorem Lu:eH.aO=false:=rfl
@[simp] theorem Qs(mx:Bool)(w:Wk):(lu mx w).eW=10:=rfl
@[simp] theorem Lj(mx:Bool)(w:Wk):(lu mx w).aO=false:=rfl
@[simp] theorem Lh(mx:Bool)(w:Wk):(lu mx w).isAgg=true:=rfl
@[simp] theorem L1(mx:Bool)(w:Wk):(lu mx w).pure=true:=by simp[lu]
@[simp] theorem Ma(k:Nat):SV.bD k eH=false:=rfl
@[simp] theorem VF(k:Nat):SV.lt k eH=true:=rfl
@[simp] theorem Ts(k:Nat)(es:List SV):j5 k es eH=eH:=rfl
def qp(mx:Bool)(w:Wk):aJ:=aE mx w++[some ⟨10,[eH],false⟩]
structure Qp(mx:Bool)(w:Wk)(i:Nat)(b:Bool)(v:Wk):Prop where
 lo:1≤i
 hi:i≤8
 eq:iM mx w (i - 1)=(b,v)
theorem Qp.step{mx:Bool}{w v:Wk}{i:Nat}(h:Qp mx w i false v)(hi:i≤7):Qp mx w (i+1) (ij mx v i).1 (ij mx v i).2:=by
 refine⟨by omega,by omega,?_⟩;have e:=vW h.eq;have hl:=h.lo;rw[show i - 1+1=i by omega]at e;exact e
theorem Qp.fin{mx:Bool}{w v:Wk}{i:Nat}{b:Bool}(h:Qp mx w i b v)(hb:b=true∨i=8):ix mx w=(b,v):=by
 have h1:=h.lo;have h2:=h.hi;rcases hb with rfl | rfl
 ·have e:=nV h.eq (7 - (i - 1));rw[show i - 1+(7 - (i - 1))=7 by omega]at e;exact e
 ·exact h.eq
end Go.Ps
namespace Go.Proofs
open Go.Sv Go Go.Tb Go.Pl Go.Ut Go.Li Go.Ps
theorem AR(p:aV)(h:I6 p):ji Tryz.prog 40 [dd p] [] [] (fun T y=>T=M7 p∧y=Vn p):=by
 have nc:=h.nc;have nr:=h.nr;refine bP Tryz.func40 rfl (by simp) (fun C hC=>?_);have hC:C.fx=[]:=hC;refine aa.cutAt 3 (fun st=>st=⟨20,[(1,.ptr 0 0 0),(2,.ptr 1 0 0),(3,.ptr 2 0 0)],[some ⟨7,[dd p],false⟩,some ⟨7,[.agg [.val (.bool false),.val (.bool false),.val (.slice none 0 0),.val (.bool false),.val (.slice none 0 0),.val (.slice none 0 0),.val (.slice none 0 0)]],false⟩,some ⟨7,[.agg (bZ p.max::((bL p.shift).cells++[.val (.slice none 0 0),.ro (p.rows.map cQ)]))],false⟩]⟩) ?_ ?_
 ·simp only[ar,aq];simp;simp[aw,hC];rfl
 rintro st rfl;simp only[ao,al];refine aa.le (Le.bB 2 5 16 rfl rfl rfl rfl (by simp)) ?_;simp[aK,ax,bl];refine aa.cutAt 2 (fun st=>st=⟨20,[(1,.ptr 0 0 0),(2,.ptr 1 0 0),(3,.ptr 2 0 0)],[some ⟨7,[dd p],false⟩,some ⟨7,[.agg [.val (.bool false),.val (.bool false),.val (.slice none 0 0),.val (.bool false),.val (.slice none 0 0),.val (.slice none 0 0),.val (.slice none 0 0)]],false⟩,some ⟨7,[.agg (bZ p.max::((bL p.shift).cells++[.view 3 0 p.ae.length,.val (.slice none 0 0)]))],false⟩,some ⟨16,p.ae.map cw,false⟩]⟩) ?_ ?_
 ·simp only[ar,aq];simp;exact⟨⟨by simp[hC],by cases p.ae<;>simp[r6],by omega⟩,by simp[aw,hC]⟩
 rintro st rfl;simp only[ao,al];refine aa.le (Le.bB 2 6 13 rfl rfl rfl rfl (by simp)) ?_;simp[aK,ax,bl];refine aa.go ?_;simp;refine⟨⟨by simp[hC],by cases p.rows<;>simp[r6],by omega⟩,?_⟩;exact⟨_,_,⟨rfl,rfl⟩,rfl,by simp[M7,dX],.inl rfl⟩
theorem yF(p:aV)(hf:I6 p)(G:bh p.ae.length p.rows.length 2400 (cq p))(h7:p.ae.length≤7)(h7':p.rows.length≤7) :
  m8 Tryz.prog 13 [dd p] (fun y=>∃z,Bz p.max (cq p) z∧y=Co p.max z):=by
 have gT:=AR p hf;refine fg Tryz.func13 rfl (by simp) (fun C hC=>?_);refine aa.wk ?_;refine aa.cutAt 1 (fun st=>st=⟨44,[(1,.ptr 0 0 0),(2,.ptr 1 0 0)],[some ⟨7,[dd p],false⟩,some ⟨10,[eH],false⟩]⟩) ?_ ?_
 ·simp only[ar,aq];simp;simp[aw,hC,eH];done
 rintro st rfl;simp only[ao,al];refine aa.gp (fun st=>st=⟨44,[(2,.ptr 6 0 0),(3,.ptr 0 0 0)],qp p.max (cq p)⟩) ?_ ?_
 ·refine aa.draw (.qs [0,2,3,4,6,7,8]<|.alt 1 [] (.alt 5 [] (.l 9 []<|.qs [10]<|.l 11 []<|.qs [12]<|.nil)<|.alt 9 [] (.l 5 []<|.qs [10]<|.l 11 []<|.qs [12]<|.nil)<|.stop)<|.alt 5 [] (.alt 1 [] (.l 9 []<|.qs [10]<|.l 11 []<|.qs [12]<|.nil)<|.alt 9 [] (.l 1 []<|.qs [10]<|.l 11 []<|.qs [12]<|.nil)<|.stop)<|.alt 9 [] (.alt 1 [] (.l 5 []<|.qs [10]<|.l 11 []<|.qs [12]<|.nil)<|.alt 5 [] (.l 1 []<|.qs [10]<|.l 11 []<|.qs [12]<|.nil)<|.stop)<|.stop) (by kernel_rfl) (by kernel_rfl) (by simp) ?_;simp;have sv:cq p=⟨p.ae,p.rows,p.shift,akQ p.ae.length false,akQ p.rows.length false,[],false⟩:=rfl;have rr:∀(σ:Nat→Nat) (k:Nat),dj σ (akQ k (SV.val (.bool false)))=akQ k (SV.val (.bool false)):=fun σ k=>cG σ _ (xI rfl)
  repeat' apply And.intro
  all_goals first
   | omega
   | (
     refine cN gT [] (by simp) (by simp) (by simp) (by simp) (by simp) ?_;rintro T y ⟨rfl,rfl⟩;simp[M7,Vn]
     repeat' apply And.intro)
  all_goals first
   | omega
   | (
     refine(Le.bB 9 9 7 rfl rfl rfl rfl (by simp)).trans ?_;refine Le.trans (Le.m7 (st':=⟨44,[(2,.ptr 6 0 0),(3,.ptr 0 0 0)],aE p.max (cq p)++[some ⟨10,[eH],false⟩,some ⟨7,[dd p],false⟩,none,none,none]⟩) hC [9,5,6,7,8,10,1,0,2,3,4] (by decide) rfl rfl rfl ?_ ?_) ?_
     ·simp[aK,aE,aQ,px,gE,sv,ax,bl,rr,eH];done
     ·simp[zF,Go.Sv.get,px];done
     ·exact Le.bA (by simp[aw,hC,aE,aQ,qp,eH]))
   | (
     refine(Le.bB 9 9 7 rfl rfl rfl rfl (by simp)).trans ?_;refine Le.trans (Le.m7 (st':=⟨44,[(2,.ptr 6 0 0),(3,.ptr 0 0 0)],aE p.max (cq p)++[some ⟨10,[eH],false⟩,some ⟨7,[dd p],false⟩,none,none,none]⟩) hC [9,5,6,8,7,10,1,0,2,3,4] (by decide) rfl rfl rfl ?_ ?_) ?_
     ·simp[aK,aE,aQ,px,gE,sv,ax,bl,rr,eH];done
     ·simp[zF,Go.Sv.get,px];done
     ·exact Le.bA (by simp[aw,hC,aE,aQ,qp,eH]))
   | (
     refine(Le.bB 9 9 7 rfl rfl rfl rfl (by simp)).trans ?_;refine Le.trans (Le.m7 (st':=⟨44,[(2,.ptr 6 0 0),(3,.ptr 0 0 0)],aE p.max (cq p)++[some ⟨10,[eH],false⟩,some ⟨7,[dd p],false⟩,none,none,none]⟩) hC [9,6,7,2,8,10,1,0,3,4,5] (by decide) rfl rfl rfl ?_ ?_) ?_
     ·simp[aK,aE,aQ,px,gE,sv,ax,bl,rr,eH];done
     ·simp[zF,Go.Sv.get,px];done
     ·exact Le.bA (by simp[aw,hC,aE,aQ,qp,eH]))
   | (
     refine(Le.bB 9 9 7 rfl rfl rfl rfl (by simp)).trans ?_;refine Le.trans (Le.m7 (st':=⟨44,[(2,.ptr 6 0 0),(3,.ptr 0 0 0)],aE p.max (cq p)++[some ⟨10,[eH],false⟩,some ⟨7,[dd p],false⟩,none,none,none]⟩) hC [9,7,8,2,3,10,1,0,4,5,6] (by decide) rfl rfl rfl ?_ ?_) ?_
     ·simp[aK,aE,aQ,px,gE,sv,ax,bl,rr,eH];done
     ·simp[zF,Go.Sv.get,px];done
     ·exact Le.bA (by simp[aw,hC,aE,aQ,qp,eH]))
   | (
     refine(Le.bB 9 9 7 rfl rfl rfl rfl (by simp)).trans ?_;refine Le.trans (Le.m7 (st':=⟨44,[(2,.ptr 6 0 0),(3,.ptr 0 0 0)],aE p.max (cq p)++[some ⟨10,[eH],false⟩,some ⟨7,[dd p],false⟩,none,none,none]⟩) hC [9,6,7,8,2,10,1,0,3,4,5] (by decide) rfl rfl rfl ?_ ?_) ?_
     ·simp[aK,aE,aQ,px,gE,sv,ax,bl,rr,eH];done
     ·simp[zF,Go.Sv.get,px];done
     ·exact Le.bA (by simp[aw,hC,aE,aQ,qp,eH]))
   | (
     refine(Le.bB 9 9 7 rfl rfl rfl rfl (by simp)).trans ?_;refine Le.trans (Le.m7 (st':=⟨44,[(2,.ptr 6 0 0),(3,.ptr 0 0 0)],aE p.max (cq p)++[some ⟨10,[eH],false⟩,some ⟨7,[dd p],false⟩,none,none,none]⟩) hC [9,7,8,3,2,10,1,0,4,5,6] (by decide) rfl rfl rfl ?_ ?_) ?_
     ·simp[aK,aE,aQ,px,gE,sv,ax,bl,rr,eH];done
     ·simp[zF,Go.Sv.get,px];done
     ·exact Le.bA (by simp[aw,hC,aE,aQ,qp,eH]))
  done
 rintro st rfl;clear gT hf;generalize hcn:p.ae.length=n at *;generalize hrm:p.rows.length=m at *;refine aa.cutAt 2 (fun st=>∃w,Bz p.max (cq p) w∧bh n m 2400 w∧∃w',w'.no=w.no∧(w.no=false→w'=w)∧st=⟨44,[(2,.ptr 6 0 0),(3,.ptr 0 0 0)],qp p.max w'⟩) ?_ ?_
 ·simp only[ar,aq];simp;refine aa.bG (ι:=LSd) (fun⟨b,w,w'⟩=>⟨44,[(2,.ptr 6 0 0),(3,.ptr 0 0 0),(4,bZ b)],qp p.max w'⟩)
   (fun⟨b,w,w'⟩=>JO n m 2400 p.max (cq p) b w∧w'.no=w.no∧(w.no=false→w'=w)) (fun⟨b,w,w'⟩=>wZ n m b w) ⟨true,cq p,cq p⟩ ⟨JO.start G rfl,rfl,fun _=>rfl⟩ ?_ ?_
  ·simp[aw,hC,qp,aE,aQ];done
  rintro⟨b,w,w'⟩ ⟨hO,e1,e2⟩;by_cases hb:b=true
  ·by_cases hn:w.no=false
   ·have ew:=e2 hn;subst ew;have hS:=hO.step (by omega) hb hn;have Gw:=hO.G;subst hb;simp only[qp,aE,aQ];simp[hn];refine aa.bG (ι:=LRu) (fun⟨i,b,v,v'⟩=>⟨44,[(2,.ptr 6 0 0),(3,.ptr 0 0 0),(4,bZ b),(5,iv i)],qp p.max v'⟩)
     (fun⟨i,b,v,v'⟩=>Qp p.max w' i b v∧v'.no=v.no∧(v.no=false→v'=v)) (fun⟨i,b,v,v'⟩=>if b=true then 0 else 8 - i) ⟨1,false,w',w'⟩ ⟨⟨by omega,by omega,rfl⟩,rfl,fun _=>rfl⟩ ?_ ?_
    ·simp[aw,hC,qp,aE,aQ,hn];done
    rintro⟨i,b,v,v'⟩ ⟨hI,f1,f2⟩;have hlo:=hI.lo;have hhi:=hI.hi;have D:=uR (mx:=p.max) (by omega) Gw hn (i - 1);rw[hI.eq]at D;by_cases hb:b=true
    ·have hq:=hI.fin (.inl hb);subst hb;simp only[qp,aE,aQ];rw[hq]at hS;by_cases ci:(i:Int)≤7
     ·simp(disch:=omega)[ci];repeat refine akI ?_
      exact⟨⟨true,v,v'⟩,⟨hS.1,f1,f2⟩,hS.2,Le.bA (by simp[aw,hC,qp,aE,aQ])⟩
     ·simp(disch:=omega)[ci];repeat refine akI ?_
      exact⟨⟨true,v,v'⟩,⟨hS.1,f1,f2⟩,hS.2,Le.bA (by simp[aw,hC,qp,aE,aQ])⟩
    ·have hb':b=false:=by simpa using hb
     subst hb';by_cases hi7:i≤7
     ·have vn:=(D.yc rfl).1;have ev:=f2 vn;subst ev;have gR:=ER (mx:=p.max) D.sq vn (by omega) (by omega) h7 h7' (k:=i) ⟨hlo,hi7⟩;have hI2:=hI.step hi7;have ci:(i:Int)≤7:=by omega
      simp only[qp,aE,aQ];simp(disch:=omega)[ci];repeat refine akI ?_
      refine cN gR [0,1,2,3,4,5] (by simp) (by simp[aE,aQ]) (by simp) (by simp[hC,aE,aQ]) (by simp) ?_;rintro T y ⟨rfl,w2,rfl,g1,g2⟩;generalize ij p.max v' i=q at *;obtain⟨qb,qv⟩:=q;simp only[aE,aQ];simp;refine⟨⟨i+1,qb,qv,w2⟩,⟨hI2,g1,g2⟩,?_,Le.bA (by simp(disch:=omega)[aw,hC,aN,qp,aE,aQ])⟩;by_cases hqb:qb=true
      ·simp[hqb];omega
      ·simp[hqb];omega
     ·obtain rfl:i=8:=by omega
      have hq:=hI.fin (.inr rfl);simp only[qp,aE,aQ];rw[hq]at hS;simp(disch:=omega)[];repeat refine akI ?_
      exact⟨⟨false,v,v'⟩,⟨hS.1,f1,f2⟩,hS.2,Le.bA (by simp[aw,hC,qp,aE,aQ])⟩
   ·have hn':w.no=true:=by simpa using hn
    rw[hn']at e1;subst hb;simp only[qp,aE,aQ];simp[e1];exact⟨_,⟨w,hO.fin (.inl hn'),hO.G,w',by rw[e1,hn'],fun q=>(by rw[hn']at q;cases q),rfl⟩,by simp[aw,hC,qp,aE,aQ,e1]⟩
  ·have hb':b=false:=by simpa using hb
   subst hb';simp only[qp,aE,aQ];simp;exact⟨_,⟨w,hO.fin (.inr rfl),hO.G,w',e1,e2,rfl⟩,by simp[aw,hC,qp,aE,aQ]⟩
 rintro st ⟨w,hR,Gw,w',e1,e2,rfl⟩;simp only[ao,al];by_cases hn:w.no=true
 ·rw[hn]at e1;refine aa.go ?_;simp only[qp,aE,aQ,eH];simp[e1];refine⟨_,Le.nl _,?_⟩;simp[nlS,wW,E7,kQ];refine⟨_,cW _ _ rfl,w,hR,?_⟩;simp[Co,hn]
 have hn':w.no=false:=by simpa using hn
 have ew:=e2 hn';subst ew;refine aa.gp (fun st=>st=⟨44,[(2,.ptr 6 0 0),(3,.ptr 0 0 0)],qp p.max w'⟩) ?_ ?_
 ·refine aa.go ?_;simp only[qp,aE,aQ];simp[hn'];exact Le.bA (by simp[aw,hC,qp,aE,aQ,hn'])
 rintro st rfl;have gL:=Fw (mx:=p.max) Gw h7 h7';simp only[qp,aE,aQ];refine aa.je 1 rfl (by simp) ?_;simp[dH,aK];refine aa.je 2 rfl (by simp) ?_;simp[dH,aK];refine aa.je 3 rfl (by simp) ?_;simp[dH,aK];refine aa.je 4 rfl (by simp) ?_;simp[dH,aK];refine aa.je 5 rfl (by simp) ?_;simp[dH,aK];refine aa.je 0 rfl (by simp) ?_;simp[dH,aK];refine aa.le (Le.bA (by simp[aw,hC,Go.Sv.get,wN]:aw C _ ⟨44,[(2,.ptr 6 0 0),(3,.bK (wN p.max w') 0)],[none,none,none,none,none,none,some ⟨10,[eH],false⟩]⟩)) ?_;refine aa.go ?_;simp;refine akK (gL) ?_;simp;refine⟨_,Le.refl _ _,?_⟩;simp;refine⟨_,cW _ _ (by simp),w',hR,?_⟩;simp[Co,hn']
end Go.Proofs

