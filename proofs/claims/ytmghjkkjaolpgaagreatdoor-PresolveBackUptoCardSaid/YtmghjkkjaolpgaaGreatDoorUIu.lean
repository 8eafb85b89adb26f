/- A text of the prover's own. -/
import Derived.Test.YtmghjkkjaolpgaaGreatDoorUIr
open Nat renaming sub_zero→amE,zero_le→aoE,sub_succ_lt_self→aph,succ_le_of_lt→apk
open List renaming cons_append→amF,nil_append→api
namespace Go.Ps
open Go Go.Sv Go.Pl Go.Proofs Go.Tb Go.Ut Go.Li
def Sb(w:Wk):Prop:=∀j,j<w.aa.length→gt w.gc j=false→aH (gt w.aa j).low (gt w.aa j).high=false
def C4(mx:Bool):Nat→Wk→Nat→Bool × Wk
 | 0=>iF
 | 1=>jA
 | 2=>o3
 | 3=>iq mx
 | 4=>gC
 | _=>iB
def JP:Nat→Bool
 | 2=>true
 | 3=>true
 | _=>false
def rB(k:Nat)(w:Wk):List Bool:=if JP k=true then w.gc else w.gr
theorem xB{w:Wk}(h:w.no=false):eD w false=w:=by
 cases w;simp only at h;subst h;rfl
theorem Jo{mx:Bool}{w:Wk}{k:Nat}(hk:k<6)(h:w.gc.length=w.aa.length)(h':w.gr.length=w.rows.length):gW mx w (k+2)=bH (C4 mx k) (rB k) ((rB k w).length - 0) 0 w:=by
 rw[amE];rcases k with _ | _ | _ | _ | _ | _ | k;all_goals first | omega | (simp only[gW,rB,JP,C4];simp[h,h'];rfl)
theorem Nb{mx:Bool}{n m u:Nat}{w:Wk}(hu:8≤u)(h:aW n m u w)(hn:w.no=false){k i:Nat}(hi:i<(rB k w).length)(hg:gt (rB k w) i=false):rT n m u w (C4 mx k w i):=by
 have h1:=h.S.gc;have h2:=h.S.gr;unfold rB at hi hg;rcases k with _ | _ | _ | _ | _ | k;all_goals simp[JP]at hi hg
 ·exact qQ h hn (by omega) hg
 ·exact qS hu h hn (by omega) hg
 ·exact rk hu h hn (by omega) hg
 ·exact rp hu h hn (by omega) hg
 ·exact oZ h hn (by omega) hg
 ·exact rv hu h hn (by omega) hg
theorem X0{mx:Bool}{w:Wk}{k i:Nat}(hN:Sb w)(hg:w.gc.length=w.aa.length)(h:(C4 mx k w i).1=false):Sb (C4 mx k w i).2:=by
 have same:∀q:Bool × Wk,q=(false,w)→Sb q.2:=fun q e=>by rw[e];exact hN
 rcases k with _ | _ | _ | _ | _ | k
 ·refine same _ ?_;change (iF w i).1=false at h;show iF w i=_;unfold iF at h ⊢;split at h
  ·cases h
  ·rename_i q;rw[if_neg q]
 ·refine same _ ?_;change (jA w i).1=false at h;show jA w i=_;unfold jA at h ⊢;simp only[]at h ⊢;split at h
  ·cases h
  ·rename_i q;rw[if_neg q]
 ·refine same _ ?_;change (o3 w i).1=false at h;show o3 w i=_;unfold o3 at h ⊢;simp only[]at h ⊢;split at h
  ·split at h<;>cases h
  ·rename_i q;rw[if_neg q]
 ·change (iq mx w i).1=false at h;show Sb (iq mx w i).2;unfold iq at h ⊢;simp only[]at h ⊢;split at h
  ·rename_i q;rw[if_pos q];exact hN
  ·rename_i q;rw[if_neg q];generalize (if(gt w.aa i).whole=true then bg (gt w.aa i) (gt w.aa i).low (gt w.aa i).high else gt w.aa i)=c at *;split at h
   ·cases h
   ·rename_i q2;rw[if_neg q2];split at h
    ·cases h
    ·rename_i q3;rw[if_neg q3];intro j hj hgj;have hj:j<w.aa.length:=by simpa[cD]using hj
     show aH (gt (w.aa.set i _) j).low (gt (w.aa.set i _) j).high=false;rw[dM hj];split
     ·simpa using q2
     ·exact hN j hj hgj
 ·refine same _ ?_;change (gC w i).1=false at h;show gC w i=_;unfold gC at h ⊢;simp only[]at h ⊢;split at h
  ·cases h
  ·rename_i q;rw[if_neg q];split at h
   ·cases h
   ·rename_i q;rw[if_neg q];split at h
    ·cases h
    ·rename_i q;rw[if_neg q]
 ·refine same _ ?_;change (iB w i).1=false at h;show iB w i=_;unfold iB at h ⊢;simp only[]at h ⊢;split at h
  ·cases h
  ·rename_i q;rw[if_neg q]
structure vb(n m u:Nat)(mx:Bool)(w:Wk)(k i:Nat)(w':Wk):Prop where
 G:aW n m u w'
 no:w'.no=false
 gc:w'.gc=w.gc
 gr:w'.gr=w.gr
 nc:Sb w'
 at':∃wk,eo mx w (k+1)=(false,wk)∧bH (C4 mx k) (rB k) ((rB k w').length - i) i w'=gW mx wk (k+2)
section
variable {n m u:Nat} {mx:Bool} {w w':Wk} {k i:Nat}
theorem vb.lens(h:vb n m u mx w k i w'):w'.gc.length=w'.aa.length∧w'.gr.length=w'.rows.length:=⟨by rw[h.G.S.gc,h.G.S.nc],by rw[h.G.S.gr,h.G.S.nr]⟩
theorem vb.gone(h:vb n m u mx w k i w')(hi:i<(rB k w').length)(hg:gt (rB k w') i=true):vb n m u mx w k (i+1) w':=by
 obtain⟨wk,h1,h2⟩:=h.at';refine⟨h.G,h.no,h.gc,h.gr,h.nc,wk,h1,?_⟩;rw[←h2];exact(sA hi hg).symm
theorem vb.Ci(hu:8≤u)(h:vb n m u mx w k i w')(hi:i<(rB k w').length)(hg:gt (rB k w') i=false)(hd:(C4 mx k w' i).1=false):vb n m u mx w k (i+1) (C4 mx k w' i).2:=by
 obtain⟨wk,h1,h2⟩:=h.at';have D:=Nb (mx:=mx) hu h.G h.no hi hg;obtain⟨d1,d2,d3,d4⟩:=D.Ci hd;have el:rB k (C4 mx k w' i).2=rB k w':=by unfold rB;rw[d2,d3]
 refine⟨D.lW,d1,by rw[d2,h.gc],by rw[d3,h.gr],X0 h.nc h.lens.1 hd,wk,h1,?_⟩;rw[←h2,el];exact(wB hi hg hd).symm
theorem vb.yes(hk:k<6)(h:vb n m u mx w k i w')(hi:i<(rB k w').length)(hg:gt (rB k w') i=false)(hd:(C4 mx k w' i).1=true):gy mx w=(true,(C4 mx k w' i).2):=by
 obtain⟨wk,h1,h2⟩:=h.at';have e:eo mx w (k+2)=(true,(C4 mx k w' i).2):=by
  rw[B9 h1,←h2,u6 hi hg hd,←hd]
 have:=qP e (5 - k)
 rwa [show k+2+(5 - k)=7 by omega]at this
theorem vb.fin(h:vb n m u mx w k i w')(hi:(rB k w').length≤i):eo mx w (k+2)=(false,w'):=by
 obtain⟨wk,h1,h2⟩:=h.at';rw[B9 h1,←h2,show(rB k w').length - i=0 by omega];rfl
theorem vb.next(hk:k+1<6)(h:vb n m u mx w k i w')(hi:(rB k w').length≤i):vb n m u mx w (k+1) 0 w':=⟨h.G,h.no,h.gc,h.gr,h.nc,w',h.fin hi,(Jo hk h.lens.1 h.lens.2).symm⟩
end
structure Co(mx:Bool)(w:Wk)(j:Nat):Prop where
 nc:∀j',j'<j→gt w.gc j'=false→aH (gt w.aa j').low (gt w.aa j').high=false
 at':bH uf Wk.gc (w.aa.length - j) j w=bH uf Wk.gc w.aa.length 0 w
structure D3(mx:Bool)(w:Wk)(i:Nat):Prop where
 c:bH uf Wk.gc w.aa.length 0 w=(false,w)
 at':bH yP Wk.gr (w.rows.length - i) i w=bH yP Wk.gr w.rows.length 0 w
section
variable {mx:Bool} {w:Wk} {j:Nat}
theorem Co.zero:Co mx w 0:=⟨fun j' h=>by omega,by rw[amE]⟩
theorem Co.gone(h:Co mx w j)(hj:j<w.aa.length)(hg:gt w.gc j=true):Co mx w (j+1):=⟨fun j' hj' hg'=>by
 by_cases e:j'=j
 ·subst e;rw[hg]at hg';cases hg'
 ·exact h.nc j' (by omega) hg',by rw[←h.at'];exact(sA (d:=uf) (g:=Wk.gc) hj hg).symm⟩
theorem Co.Ci(h:Co mx w j)(hn:w.no=false)(hj:j<w.aa.length)(hc:aH (gt w.aa j).low (gt w.aa j).high=false):Co mx w (j+1):=by
 by_cases hg:gt w.gc j=true
 ·exact h.gone hj hg
 have hg':gt w.gc j=false:=by simpa using hg
 refine⟨fun j' hj' hg'=>?_,?_⟩
 ·by_cases e:j'=j
  ·subst e;exact hc
  ·exact h.nc j' (by omega) hg'
 ·rw[←h.at',wB (d:=uf) (g:=Wk.gc) hj hg' hc];show bH uf Wk.gc _ _ w=bH uf Wk.gc _ _ (eD w (aH (gt w.aa j).low (gt w.aa j).high));rw[hc,xB hn]
theorem Co.yes(h:Co mx w j)(hj:j<w.aa.length)(hg:gt w.gc j=false)(hc:aH (gt w.aa j).low (gt w.aa j).high=true):gy mx w=(true,eD w true):=by
 have e1:uf w j=(true,eD w true):=by unfold uf;rw[hc]
 have e:eo mx w 1=(true,eD w true):=by
  show wO (false,w) _=_;rw[kM rfl];show wO (bH uf Wk.gc w.aa.length 0 w) _=_;rw[←h.at',u6 (d:=uf) (g:=Wk.gc) hj hg hc,e1,uF rfl]
 exact qP e 6
theorem Co.fin(h:Co mx w w.aa.length):D3 mx w 0:=⟨by rw[←h.at',AM],by rw[amE]⟩
theorem D3.gone(h:D3 mx w j)(hj:j<w.rows.length)(hg:gt w.gr j=true):D3 mx w (j+1):=⟨h.c,by rw[←h.at'];exact(sA (d:=yP) (g:=Wk.gr) hj hg).symm⟩
theorem D3.Ci(h:D3 mx w j)(hn:w.no=false)(hj:j<w.rows.length)(hc:aH (gt w.rows j).low (gt w.rows j).high=false):D3 mx w (j+1):=by
 by_cases hg:gt w.gr j=true
 ·exact h.gone hj hg
 have hg':gt w.gr j=false:=by simpa using hg
 refine⟨h.c,?_⟩;rw[←h.at',wB (d:=yP) (g:=Wk.gr) hj hg' hc];show bH yP Wk.gr _ _ w=bH yP Wk.gr _ _ (eD w (aH (gt w.rows j).low (gt w.rows j).high));rw[hc,xB hn]
theorem D3.yes(h:D3 mx w j)(hj:j<w.rows.length)(hg:gt w.gr j=false)(hc:aH (gt w.rows j).low (gt w.rows j).high=true):gy mx w=(true,eD w true):=by
 have e1:yP w j=(true,eD w true):=by unfold yP;rw[hc]
 have e:eo mx w 1=(true,eD w true):=by
  show wO (false,w) _=_;rw[kM rfl];show wO (bH uf Wk.gc w.aa.length 0 w) _=_;rw[h.c,kM rfl];show bH yP Wk.gr w.rows.length 0 w=_;rw[←h.at',u6 (d:=yP) (g:=Wk.gr) hj hg hc,e1]
 exact qP e 6
theorem D3.fin(h:D3 mx w w.rows.length):eo mx w 1=(false,w):=by
 show wO (false,w) _=_;rw[kM rfl];show wO (bH uf Wk.gc w.aa.length 0 w) _=_;rw[h.c,kM rfl];show bH yP Wk.gr w.rows.length 0 w=_;rw[←h.at',AM]
theorem IY{n m u:Nat}(G:aW n m u w)(hn:w.no=false)(hc:Co mx w w.aa.length)(h:D3 mx w w.rows.length):vb n m u mx w 0 0 w :=
 ⟨G,hn,rfl,rfl,hc.nc,w,h.fin,(Jo (by omega) (by rw[G.S.gc,G.S.nc]) (by rw[G.S.gr,G.S.nr])).symm⟩
end
end Go.Ps
set_option maxRecDepth 10000
set_option maxHeartbeats 2000000
namespace Go.Sv
@[simp] theorem YY{st:St}{f:Go.Fn}{x y:Array Operand}:oq st (.makeFunc f x y)=True:=rfl
end Go.Sv
namespace Go.Ps
open Go Go.Sv Go.Pl Go.Proofs Go.Tb Go.Ut Go.Li
def LU:Nat→FuncId
 | 0=>61
 | 1=>62
 | 2=>63
 | 3=>64
 | 4=>65
 | _=>66
def Dy(n m k:Nat):SV:=.agg [.view (if JP k=true then 4 else 5) 0 (if JP k=true then n else m),.gA (LU k) [.ptr 0 0 0] []]
def Gu(n m:Nat):List SV:=[Dy n m 0,Dy n m 1,Dy n m 2,Dy n m 3,Dy n m 4,Dy n m 5]
theorem Jb(n m:Nat){k:Nat}(hk:k<6):aA (Gu n m) k=Dy n m k:=by
 rcases k with _ | _ | _ | _ | _ | _ | k;all_goals first | rfl | omega
@[simp] theorem Wi(n m:Nat):SV.aX 6 (Gu n m)=false:=by simp[Gu,Dy,JP]
@[simp] theorem afg(n m:Nat):SV.lS 8 (Gu n m)=true:=by simp[Gu,Dy,JP]
theorem PA(k:Nat):al Tryz.prog (LU k):=by
 rcases k with _ | _ | _ | _ | _ | k;all_goals simp[LU]
end Go.Ps
namespace Go.Proofs
open Go.Sv Go Go.Tb Go.Pl Go.Ut Go.Li Go.Ps
theorem Xv{n m u:Nat}{w:Wk}{mx:Bool}{s0:Rat}(G:aW n m u w)(hn:w.no=false)(hu8:8≤u)(hu:u≤2400)(h7:n≤7)(h7':m≤7)(hc:Sb w){k i:Nat}(hi:i<(rB k w).length)(hg:gt (rB k w) i=false) :
  mw Tryz.prog (LU k) [.ptr 0 0 0,iv i] (aC mx s0 w) [6] (Mq mx s0 (C4 mx k w i)):=by
 have h1:=G.S.gc;have h2:=G.S.gr;have h3:=G.S.nc;unfold rB at hi hg;rcases k with _ | _ | _ | _ | _ | k;all_goals simp[JP]at hi hg
 ·exact Ie G hn (by omega)
 ·exact Hu G hu8 hu h7 h7' (by omega)
 ·exact FU G hu8 hu h7 h7' (by omega)
 ·exact GH G hu8 hu h7 h7' (by omega) (fun _=>hc i (by omega) hg)
 ·exact Gg G hu8 hu h7 h7' (by omega)
 ·exact HQ G hu8 hu h7 h7' (by omega)
structure OnL where
 k:Nat
 i:Nat
 w:Wk
theorem H6{n m u:Nat}{w:Wk}{mx:Bool}{s0:Rat}(G:aW n m u w)(hn:w.no=false)(hu8:8≤u)(hu:u≤2400)(h7:n≤7)(h7':m≤7) :
  mw Tryz.prog 30 [.ptr 0 0 0] (aC mx s0 w) [6] (Mq mx s0 (gy mx w)):=by
 have nc:=G.S.nc;have nr:=G.S.nr;have ngc:=G.S.gc;have ngr:=G.S.gr;obtain⟨gc7,gr7⟩:=fm G;have tB:=na hu (c:=aD w.gc) (r:=aD w.gr) (by omega) (by omega);refine dK Tryz.func30 rfl (by simp) (fun C hC=>?_);have hC:C.fx=[0,1,2,3,4,5]:=hC;refine ae.cutAt 2 (fun st=>Co mx w w.aa.length∧st=⟨175,[(0,.ptr 0 0 0)],aC mx s0 w⟩) ?_ ?_
 ·simp only[aG,aE,aC,aQ,aR];simp;refine ae.cq (ι:=Nat) (fun j=>⟨175,[(0,.ptr 0 0 0),(18,iv w.aa.length),(19,iv j)],aC mx s0 w⟩)
   (fun j=>j≤w.aa.length∧Co mx w j) (fun j=>w.aa.length - j) 0 ⟨aoE _,Co.zero⟩ ?_ ?_
  ·simp[ar,hC,aC,aQ,aR];done
  rintro j ⟨hj,hI⟩;simp only[aC,aQ,aR];by_cases aF:j<w.aa.length
  ·have hjg:j<w.gc.length:=by omega
   have lc:=cX aF;have lg:=dO hjg;have cn:=hI.Ci hn aF;have cy:=hI.yes aF;have cg:=hI.gone aF;have wc:=G.W.co j aF;have q1:dE (gt w.aa j).low.at':=ah wc.1 (by omega);have q2:dE (gt w.aa j).high.at':=ah wc.2.1 (by omega);generalize gt w.aa j=c at *;by_cases hg:gt w.gc j=true
   ·simp(disch:=omega)[aF,lc,hjg,lg,hg];repeat refine alR ?_
    exact⟨j+1,⟨by omega,cg hg⟩,by omega,Le.ct (by simp(disch:=omega)[ar,hC,aP])⟩
   ·have hg':gt w.gc j=false:=by simpa using hg
    by_cases h1:c.low.has=true
    ·by_cases h2:c.high.has=true
     ·simp(disch:=omega)[aF,lc,hjg,lg,hg',h1,h2];repeat refine alR ?_
      refine alT (tJ _ _ q1 q2) ?_;by_cases h3:c.high.at'<c.low.at'
      ·simp(disch:=omega)[h3];repeat refine alR ?_
       rw[cy hg' (by simp[aH,h1,h2,h3])];exact⟨_,_,⟨rfl,rfl⟩,by simp,by simp[aC,aQ,aR,iS,eD],by simp[aC],.inr ⟨by simp,by simp[aC,j6,aQ,aR]⟩⟩
      ·simp(disch:=omega)[h3];repeat refine alR ?_
       exact⟨j+1,⟨by omega,cn (by simp[aH,h3])⟩,by omega,Le.ct (by simp(disch:=omega)[ar,hC,aP])⟩
     ·simp(disch:=omega)[aF,lc,hjg,lg,hg',h1,h2];repeat refine alR ?_
      exact⟨j+1,⟨by omega,cn (by simp[aH,h2])⟩,by omega,Le.ct (by simp(disch:=omega)[ar,hC,aP])⟩
    ·simp(disch:=omega)[aF,lc,hjg,lg,hg',h1];repeat refine alR ?_
     exact⟨j+1,⟨by omega,cn (by simp[aH,h1])⟩,by omega,Le.ct (by simp(disch:=omega)[ar,hC,aP])⟩
  ·obtain rfl:j=w.aa.length:=by omega
   simp;simp[ar,hC,aC,aQ,aR,hI];done
 rintro st ⟨hcr,rfl⟩;simp only[ax,au];refine ae.cutAt 1 (fun st=>D3 mx w w.rows.length∧st=⟨175,[(0,.ptr 0 0 0)],aC mx s0 w⟩) ?_ ?_
 ·simp only[aG,aE,aC,aQ,aR];simp;refine ae.cq (ι:=Nat) (fun i=>⟨175,[(0,.ptr 0 0 0),(70,.view 3 0 w.rows.length),(71,iv w.rows.length),(72,iv i)],aC mx s0 w⟩)
   (fun i=>i≤w.rows.length∧D3 mx w i) (fun i=>w.rows.length - i) 0 ⟨aoE _,hcr.fin⟩ ?_ ?_
  ·simp[ar,hC,aC,aQ,aR];done
  rintro i ⟨hi,hI⟩;simp only[aC,aQ,aR];by_cases aF:i<w.rows.length
  ·have hig:i<w.gr.length:=by omega
   have lr:=dX aF;have lg:=dO hig;have cn:=hI.Ci hn aF;have cy:=hI.yes aF;have cg:=hI.gone aF;have wr:=G.W.ro i aF;have q1:dE (gt w.rows i).low.at':=ah wr.1 (by omega);have q2:dE (gt w.rows i).high.at':=ah wr.2 (by omega);generalize gt w.rows i=r at *;by_cases hg:gt w.gr i=true
   ·simp(disch:=omega)[aF,lr,hig,lg,hg];repeat refine alR ?_
    exact⟨i+1,⟨by omega,cg hg⟩,by omega,Le.ct (by simp(disch:=omega)[ar,hC,aP])⟩
   ·have hg':gt w.gr i=false:=by simpa using hg
    by_cases h1:r.low.has=true
    ·by_cases h2:r.high.has=true
     ·simp(disch:=omega)[aF,lr,hig,lg,hg',h1,h2];repeat refine alR ?_
      refine alT (tJ _ _ q1 q2) ?_;by_cases h3:r.high.at'<r.low.at'
      ·simp(disch:=omega)[h3];repeat refine alR ?_
       rw[cy hg' (by simp[aH,h1,h2,h3])];exact⟨_,_,⟨rfl,rfl⟩,by simp,by simp[aC,aQ,aR,iS,eD],by simp[aC],.inr ⟨by simp,by simp[aC,j6,aQ,aR]⟩⟩
      ·simp(disch:=omega)[h3];repeat refine alR ?_
       exact⟨i+1,⟨by omega,cn (by simp[aH,h3])⟩,by omega,Le.ct (by simp(disch:=omega)[ar,hC,aP])⟩
     ·simp(disch:=omega)[aF,lr,hig,lg,hg',h1,h2];repeat refine alR ?_
      exact⟨i+1,⟨by omega,cn (by simp[aH,h2])⟩,by omega,Le.ct (by simp(disch:=omega)[ar,hC,aP])⟩
    ·simp(disch:=omega)[aF,lr,hig,lg,hg',h1];repeat refine alR ?_
     exact⟨i+1,⟨by omega,cn (by simp[aH,h1])⟩,by omega,Le.ct (by simp(disch:=omega)[ar,hC,aP])⟩
  ·obtain rfl:i=w.rows.length:=by omega
   simp;simp[ar,hC,aC,aQ,aR,hI];done
 rintro st ⟨hcs,rfl⟩;simp only[ax,au];refine ae.jk (fun st=>∃w',eo mx w 7=(false,w')∧st=⟨175,[(0,.ptr 0 0 0)],aC mx s0 w'⟩) ?_ ?_
 ·refine ae.jk (fun st=>st=⟨175,[(0,.ptr 0 0 0),(151,.view 7 0 6),(152,iv 6),(153,iv 0)],aC mx s0 w++[some ⟨2,Gu n m,false⟩]⟩) ?_ ?_
  ·simp only[aC,aQ,aR];refine ae.alS (.qs [0,1,2,3,4,5,6,7,8,9,10,11,12,13,14,15,16,17,18,19,20,21,22,23,24,25,26,27,28,29,30,31,32,33,34,35,36,37,38,39,40,41,44]<|.l 42 []<|.qs [43]<|.nil) ?_;simp;exact Le.ct (by simp[ar,hC,aC,aQ,aR,Gu,Dy,LU,JP,ngc,ngr])
  rintro st rfl;have hst:=IY G hn hcr hcs;clear hcr hcs;refine ae.zU ?_;refine ae.Hk (ι:=OnL) (fun⟨k,_,w'⟩=>⟨175,[(0,.ptr 0 0 0),(151,.view 7 0 6),(152,iv 6),(153,iv k)],aC mx s0 w'++[some ⟨2,Gu n m,false⟩]⟩)
   (fun⟨k,_,w'⟩=>k≤6∧(k<6→vb n m u mx w k 0 w')∧(k=6→eo mx w 7=(false,w'))) (fun⟨k,_,w'⟩=>6 - k) ⟨0,0,w⟩ ?_ ?_ ?_
  ·exact⟨by omega,fun _=>hst,fun e=>by omega⟩
  ·simp[ar,hC,aC,aQ,aR];done
  rintro⟨k,z0,w'⟩ ⟨hk,hO,hE⟩;refine ae.go ?_;simp only[aC,aQ,aR,amF,api];by_cases aF:k<6
  ·have hO:=hO aF;have hF:=PA k;have hl:=Jb n m aF;have hru:=fun i w2 (O:vb n m u mx w k i w2) hi hg=>Xv (s0:=s0) O.G O.no hu8 hu h7 h7' O.nc (mx:=mx) (k:=k) (i:=i) hi hg;have hye:=fun i w2 (O:vb n m u mx w k i w2)=>O.yes aF;have hna:=fun i w2 (O:vb n m u mx w k i w2)=>O.Ci hu8;have hgo:=fun i w2 (O:vb n m u mx w k i w2)=>O.gone;by_cases hcol:JP k=true
   ·have eV:Dy n m k=.agg [.view 4 0 n,.gA (LU k) [.ptr 0 0 0] []]:=by unfold Dy;rw[if_pos hcol,if_pos hcol]
    have eL:∀w2,rB k w2=w2.gc:=fun w2=>by unfold rB;rw[if_pos hcol]
    rw[eV]at hl;simp only[eL]at hru hye hna hgo;generalize LU k=F at *;generalize C4 mx k=d at *;have hlt':(k:Int)<6:=by omega
    simp(disch:=omega)[hlt',hl,show(Gu n m).length=6 from rfl,aF];repeat refine alR ?_
    refine ae.cq (ι:=OnL) (fun⟨_,i,w2⟩=>⟨175,[(0,.ptr 0 0 0),(8,.ptr 8 0 0),(151,.view 7 0 6),(152,iv 6),(153,iv k),(158,.view 4 0 n),(159,iv n),(160,iv i)],aC mx s0 w2++[some ⟨2,Gu n m,false⟩,some ⟨2,[.agg [.view 4 0 n,.gA F [.ptr 0 0 0] []]],false⟩]⟩)
     (fun⟨_,i,w2⟩=>i≤n∧vb n m u mx w k i w2) (fun⟨_,i,w2⟩=>n - i) ⟨0,0,w'⟩ ⟨aoE _,hO⟩ ?_ ?_
    ·simp[ar,hC,aC,aQ,aR];done
    rintro⟨z1,i,w2⟩ ⟨hi,hI⟩;simp only[aC,aQ,aR,amF,api];by_cases hi2:i<n
    ·have hr:=hru i w2 hI;have hy:=hye i w2 hI;have hn:=hna i w2 hI;have hg:=hgo i w2 hI;have ll:i<w2.gc.length:=by have:=hI.G.S.gc;omega
     have lg:=dO ll;by_cases gg:gt w2.gc i=true
     ·simp(disch:=omega)[hi2,ll,lg,gg];exact⟨⟨0,i+1,w2⟩,⟨hi2,hg ll gg⟩,aph _ _ hi2,Le.ct (by simp(disch:=omega)[ar,hC,aP,aC,aQ,aR])⟩
     ·have gg':gt w2.gc i=false:=by simpa using gg
      have hr:=hr ll gg';have hy:=hy ll gg';have hn:=hn ll gg';simp(disch:=omega)[hi2,ll,lg,gg',hF];refine fy hr [0,1,2,3,4,5,6] (by simp) (by simp[aC,aQ,aR]) (by simp) (by simp[aC,hC]) (by simp) ?_;rintro T y ⟨rfl,rfl⟩;generalize d w2 i=q at *;obtain⟨b,w3⟩:=q;simp only[aC,aQ,aR,amF,api];cases b with
      | true =>
       simp;rw[hy rfl];exact⟨_,_,⟨rfl,rfl⟩,by simp,by simp[aC,aQ,aR,iS],by simp[aC],.inr ⟨by simp,by simp[aC,j6,aQ,aR]⟩⟩
      | false =>
       simp;exact⟨⟨0,i+1,w3⟩,⟨hi2,hn rfl⟩,aph _ _ hi2,Le.ct (by simp(disch:=omega)[ar,hC,aP,aC,aQ,aR])⟩
    ·have ei:i=n:=by omega
     have hge:(rB k w2).length≤i:=by rw[eL];have:=hI.G.S.gc;omega
     simp[ei];refine⟨⟨k+1,0,w2⟩,⟨apk aF,fun q=>hI.next q hge,fun q=>?_⟩,aph _ _ aF,Le.ct (by simp(disch:=omega)[ar,hC,aP,aC,aQ,aR])⟩;have q:k+1=6:=q;have:=hI.fin hge
     rwa [show k+2=7 by omega]at this
   ·have eV:Dy n m k=.agg [.view 5 0 m,.gA (LU k) [.ptr 0 0 0] []]:=by unfold Dy;rw[if_neg hcol,if_neg hcol]
    have eL:∀w2,rB k w2=w2.gr:=fun w2=>by unfold rB;rw[if_neg hcol]
    rw[eV]at hl;simp only[eL]at hru hye hna hgo;generalize LU k=F at *;generalize C4 mx k=d at *;have hlt':(k:Int)<6:=by omega
    simp(disch:=omega)[hlt',hl,show(Gu n m).length=6 from rfl,aF];repeat refine alR ?_
    refine ae.cq (ι:=OnL) (fun⟨_,i,w2⟩=>⟨175,[(0,.ptr 0 0 0),(8,.ptr 8 0 0),(151,.view 7 0 6),(152,iv 6),(153,iv k),(158,.view 5 0 m),(159,iv m),(160,iv i)],aC mx s0 w2++[some ⟨2,Gu n m,false⟩,some ⟨2,[.agg [.view 5 0 m,.gA F [.ptr 0 0 0] []]],false⟩]⟩)
     (fun⟨_,i,w2⟩=>i≤m∧vb n m u mx w k i w2) (fun⟨_,i,w2⟩=>m - i) ⟨0,0,w'⟩ ⟨aoE _,hO⟩ ?_ ?_
    ·simp[ar,hC,aC,aQ,aR];done
    rintro⟨z1,i,w2⟩ ⟨hi,hI⟩;simp only[aC,aQ,aR,amF,api];by_cases hi2:i<m
    ·have hr:=hru i w2 hI;have hy:=hye i w2 hI;have hn:=hna i w2 hI;have hg:=hgo i w2 hI;have ll:i<w2.gr.length:=by have:=hI.G.S.gr;omega
     have lg:=dO ll;by_cases gg:gt w2.gr i=true
     ·simp(disch:=omega)[hi2,ll,lg,gg];exact⟨⟨0,i+1,w2⟩,⟨hi2,hg ll gg⟩,aph _ _ hi2,Le.ct (by simp(disch:=omega)[ar,hC,aP,aC,aQ,aR])⟩
     ·have gg':gt w2.gr i=false:=by simpa using gg
      have hr:=hr ll gg';have hy:=hy ll gg';have hn:=hn ll gg';simp(disch:=omega)[hi2,ll,lg,gg',hF];refine fy hr [0,1,2,3,4,5,6] (by simp) (by simp[aC,aQ,aR]) (by simp) (by simp[aC,hC]) (by simp) ?_;rintro T y ⟨rfl,rfl⟩;generalize d w2 i=q at *;obtain⟨b,w3⟩:=q;simp only[aC,aQ,aR,amF,api];cases b with
      | true =>
       simp;rw[hy rfl];exact⟨_,_,⟨rfl,rfl⟩,by simp,by simp[aC,aQ,aR,iS],by simp[aC],.inr ⟨by simp,by simp[aC,j6,aQ,aR]⟩⟩
      | false =>
       simp;exact⟨⟨0,i+1,w3⟩,⟨hi2,hn rfl⟩,aph _ _ hi2,Le.ct (by simp(disch:=omega)[ar,hC,aP,aC,aQ,aR])⟩
    ·have ei:i=m:=by omega
     have hge:(rB k w2).length≤i:=by rw[eL];have:=hI.G.S.gr;omega
     simp[ei];refine⟨⟨k+1,0,w2⟩,⟨apk aF,fun q=>hI.next q hge,fun q=>?_⟩,aph _ _ aF,Le.ct (by simp(disch:=omega)[ar,hC,aP,aC,aQ,aR])⟩;have q:k+1=6:=q;have:=hI.fin hge
     rwa [show k+2=7 by omega]at this
  ·obtain rfl:k=6:=by omega
   have:=hE rfl;simp;exact⟨_,⟨_,this,rfl⟩,Le.ct (by simp[ar,hC,aC,aQ,aR])⟩
 rintro st ⟨w',hE,rfl⟩;have hE:gy mx w=(false,w'):=hE;rw[hE];refine ae.go ?_;simp only[aC,aQ,aR];simp;exact⟨_,_,⟨rfl,rfl⟩,by simp,by simp[aC,aQ,aR,iS],by simp[aC],.inr ⟨by simp,by simp[aC,j6,aQ,aR]⟩⟩
end Go.Proofs

