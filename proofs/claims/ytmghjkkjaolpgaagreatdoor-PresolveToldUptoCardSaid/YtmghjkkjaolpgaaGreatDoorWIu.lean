/- A text of the prover's own. -/
import Derived.Test.YtmghjkkjaolpgaaGreatDoorWIr
open Nat renaming sub_zero→alx,zero_le→anA,sub_succ_lt_self→an2,succ_le_of_lt→an5
open List renaming cons_append→aly,nil_append→anu
namespace Go.Ps
open Go Go.Sv Go.Pl Go.Proofs Go.Tb Go.Ut Go.Li
def Q5(w:Wk):Prop:=∀j,j<w.ae.length→gt w.gc j=false→aD (gt w.ae j).low (gt w.ae j).high=false
def BT(mx:Bool):Nat→Wk→Nat→Bool × Wk
 | 0=>jU
 | 1=>j3
 | 2=>su
 | 3=>fT mx
 | 4=>gj
 | _=>iB
def IY:Nat→Bool
 | 2=>true
 | 3=>true
 | _=>false
def rm(k:Nat)(w:Wk):List Bool:=if IY k=true then w.gc else w.gr
theorem xH{w:Wk}(h:w.no=false):da w false=w:=by
 cases w;simp only at h;subst h;rfl
theorem HW{mx:Bool}{w:Wk}{k:Nat}(hk:k<6)(h:w.gc.length=w.ae.length)(h':w.gr.length=w.rows.length):ij mx w (k+2)=bX (BT mx k) (rm k) ((rm k w).length - 0) 0 w:=by
 rw[alx];rcases k with _ | _ | _ | _ | _ | _ | k;all_goals first | omega | (simp only[ij,rm,IY,BT];simp[h,h'];rfl)
theorem Nd{mx:Bool}{n m u:Nat}{w:Wk}(hu:8≤u)(h:bh n m u w)(hn:w.no=false){k i:Nat}(hi:i<(rm k w).length)(hg:gt (rm k w) i=false):qR n m u w (BT mx k w i):=by
 have h1:=h.S.gc;have h2:=h.S.gr;unfold rm at hi hg;rcases k with _ | _ | _ | _ | _ | k;all_goals simp[IY]at hi hg
 ·exact wA h hn (by omega) hg
 ·exact uC hu h hn (by omega) hg
 ·exact vM hu h hn (by omega) hg
 ·exact uD hu h hn (by omega) hg
 ·exact sC h hn (by omega) hg
 ·exact wI hu h hn (by omega) hg
theorem Tj{mx:Bool}{w:Wk}{k i:Nat}(hN:Q5 w)(hg:w.gc.length=w.ae.length)(h:(BT mx k w i).1=false):Q5 (BT mx k w i).2:=by
 have same:∀q:Bool × Wk,q=(false,w)→Q5 q.2:=fun q e=>by rw[e];exact hN
 rcases k with _ | _ | _ | _ | _ | k
 ·refine same _ ?_;change (jU w i).1=false at h;show jU w i=_;unfold jU at h ⊢;split at h
  ·cases h
  ·rename_i q;rw[if_neg q]
 ·refine same _ ?_;change (j3 w i).1=false at h;show j3 w i=_;unfold j3 at h ⊢;simp only[]at h ⊢;split at h
  ·cases h
  ·rename_i q;rw[if_neg q]
 ·refine same _ ?_;change (su w i).1=false at h;show su w i=_;unfold su at h ⊢;simp only[]at h ⊢;split at h
  ·split at h<;>cases h
  ·rename_i q;rw[if_neg q]
 ·change (fT mx w i).1=false at h;show Q5 (fT mx w i).2;unfold fT at h ⊢;simp only[]at h ⊢;split at h
  ·rename_i q;rw[if_pos q];exact hN
  ·rename_i q;rw[if_neg q];generalize (if(gt w.ae i).whole=true then cA (gt w.ae i) (gt w.ae i).low (gt w.ae i).high else gt w.ae i)=c at *;split at h
   ·cases h
   ·rename_i q2;rw[if_neg q2];split at h
    ·cases h
    ·rename_i q3;rw[if_neg q3];intro j hj hgj;have hj:j<w.ae.length:=by simpa[bN]using hj
     show aD (gt (w.ae.set i _) j).low (gt (w.ae.set i _) j).high=false;rw[gN hj];split
     ·simpa using q2
     ·exact hN j hj hgj
 ·refine same _ ?_;change (gj w i).1=false at h;show gj w i=_;unfold gj at h ⊢;simp only[]at h ⊢;split at h
  ·cases h
  ·rename_i q;rw[if_neg q];split at h
   ·cases h
   ·rename_i q;rw[if_neg q];split at h
    ·cases h
    ·rename_i q;rw[if_neg q]
 ·refine same _ ?_;change (iB w i).1=false at h;show iB w i=_;unfold iB at h ⊢;simp only[]at h ⊢;split at h
  ·cases h
  ·rename_i q;rw[if_neg q]
structure uK(n m u:Nat)(mx:Bool)(w:Wk)(k i:Nat)(w':Wk):Prop where
 G:bh n m u w'
 no:w'.no=false
 gc:w'.gc=w.gc
 gr:w'.gr=w.gr
 nc:Q5 w'
 at':∃wk,iM mx w (k+1)=(false,wk)∧bX (BT mx k) (rm k) ((rm k w').length - i) i w'=ij mx wk (k+2)
section
variable {n m u:Nat} {mx:Bool} {w w':Wk} {k i:Nat}
theorem uK.lens(h:uK n m u mx w k i w'):w'.gc.length=w'.ae.length∧w'.gr.length=w'.rows.length:=⟨by rw[h.G.S.gc,h.G.S.nc],by rw[h.G.S.gr,h.G.S.nr]⟩
theorem uK.gone(h:uK n m u mx w k i w')(hi:i<(rm k w').length)(hg:gt (rm k w') i=true):uK n m u mx w k (i+1) w':=by
 obtain⟨wk,h1,h2⟩:=h.at';refine⟨h.G,h.no,h.gc,h.gr,h.nc,wk,h1,?_⟩;rw[←h2];exact(oH hi hg).symm
theorem uK.yc(hu:8≤u)(h:uK n m u mx w k i w')(hi:i<(rm k w').length)(hg:gt (rm k w') i=false)(hd:(BT mx k w' i).1=false):uK n m u mx w k (i+1) (BT mx k w' i).2:=by
 obtain⟨wk,h1,h2⟩:=h.at';have D:=Nd (mx:=mx) hu h.G h.no hi hg;obtain⟨d1,d2,d3,d4⟩:=D.yc hd;have el:rm k (BT mx k w' i).2=rm k w':=by unfold rm;rw[d2,d3]
 refine⟨D.sq,d1,by rw[d2,h.gc],by rw[d3,h.gr],Tj h.nc h.lens.1 hd,wk,h1,?_⟩;rw[←h2,el];exact(qf hi hg hd).symm
theorem uK.yes(hk:k<6)(h:uK n m u mx w k i w')(hi:i<(rm k w').length)(hg:gt (rm k w') i=false)(hd:(BT mx k w' i).1=true):ix mx w=(true,(BT mx k w' i).2):=by
 obtain⟨wk,h1,h2⟩:=h.at';have e:iM mx w (k+2)=(true,(BT mx k w' i).2):=by
  rw[vW h1,←h2,rI hi hg hd,←hd]
 have:=nV e (5 - k)
 rwa [show k+2+(5 - k)=7 by omega]at this
theorem uK.fin(h:uK n m u mx w k i w')(hi:(rm k w').length≤i):iM mx w (k+2)=(false,w'):=by
 obtain⟨wk,h1,h2⟩:=h.at';rw[vW h1,←h2,show(rm k w').length - i=0 by omega];rfl
theorem uK.next(hk:k+1<6)(h:uK n m u mx w k i w')(hi:(rm k w').length≤i):uK n m u mx w (k+1) 0 w':=⟨h.G,h.no,h.gc,h.gr,h.nc,w',h.fin hi,(HW hk h.lens.1 h.lens.2).symm⟩
end
structure BA(mx:Bool)(w:Wk)(j:Nat):Prop where
 nc:∀j',j'<j→gt w.gc j'=false→aD (gt w.ae j').low (gt w.ae j').high=false
 at':bX zA Wk.gc (w.ae.length - j) j w=bX zA Wk.gc w.ae.length 0 w
structure C5(mx:Bool)(w:Wk)(i:Nat):Prop where
 c:bX zA Wk.gc w.ae.length 0 w=(false,w)
 at':bX xK Wk.gr (w.rows.length - i) i w=bX xK Wk.gr w.rows.length 0 w
section
variable {mx:Bool} {w:Wk} {j:Nat}
theorem BA.zero:BA mx w 0:=⟨fun j' h=>by omega,by rw[alx]⟩
theorem BA.gone(h:BA mx w j)(hj:j<w.ae.length)(hg:gt w.gc j=true):BA mx w (j+1):=⟨fun j' hj' hg'=>by
 by_cases e:j'=j
 ·subst e;rw[hg]at hg';cases hg'
 ·exact h.nc j' (by omega) hg',by rw[←h.at'];exact(oH (d:=zA) (g:=Wk.gc) hj hg).symm⟩
theorem BA.yc(h:BA mx w j)(hn:w.no=false)(hj:j<w.ae.length)(hc:aD (gt w.ae j).low (gt w.ae j).high=false):BA mx w (j+1):=by
 by_cases hg:gt w.gc j=true
 ·exact h.gone hj hg
 have hg':gt w.gc j=false:=by simpa using hg
 refine⟨fun j' hj' hg'=>?_,?_⟩
 ·by_cases e:j'=j
  ·subst e;exact hc
  ·exact h.nc j' (by omega) hg'
 ·rw[←h.at',qf (d:=zA) (g:=Wk.gc) hj hg' hc];show bX zA Wk.gc _ _ w=bX zA Wk.gc _ _ (da w (aD (gt w.ae j).low (gt w.ae j).high));rw[hc,xH hn]
theorem BA.yes(h:BA mx w j)(hj:j<w.ae.length)(hg:gt w.gc j=false)(hc:aD (gt w.ae j).low (gt w.ae j).high=true):ix mx w=(true,da w true):=by
 have e1:zA w j=(true,da w true):=by unfold zA;rw[hc]
 have e:iM mx w 1=(true,da w true):=by
  show xA (false,w) _=_;rw[ow rfl];show xA (bX zA Wk.gc w.ae.length 0 w) _=_;rw[←h.at',rI (d:=zA) (g:=Wk.gc) hj hg hc,e1,yU rfl]
 exact nV e 6
theorem BA.fin(h:BA mx w w.ae.length):C5 mx w 0:=⟨by rw[←h.at',u9],by rw[alx]⟩
theorem C5.gone(h:C5 mx w j)(hj:j<w.rows.length)(hg:gt w.gr j=true):C5 mx w (j+1):=⟨h.c,by rw[←h.at'];exact(oH (d:=xK) (g:=Wk.gr) hj hg).symm⟩
theorem C5.yc(h:C5 mx w j)(hn:w.no=false)(hj:j<w.rows.length)(hc:aD (gt w.rows j).low (gt w.rows j).high=false):C5 mx w (j+1):=by
 by_cases hg:gt w.gr j=true
 ·exact h.gone hj hg
 have hg':gt w.gr j=false:=by simpa using hg
 refine⟨h.c,?_⟩;rw[←h.at',qf (d:=xK) (g:=Wk.gr) hj hg' hc];show bX xK Wk.gr _ _ w=bX xK Wk.gr _ _ (da w (aD (gt w.rows j).low (gt w.rows j).high));rw[hc,xH hn]
theorem C5.yes(h:C5 mx w j)(hj:j<w.rows.length)(hg:gt w.gr j=false)(hc:aD (gt w.rows j).low (gt w.rows j).high=true):ix mx w=(true,da w true):=by
 have e1:xK w j=(true,da w true):=by unfold xK;rw[hc]
 have e:iM mx w 1=(true,da w true):=by
  show xA (false,w) _=_;rw[ow rfl];show xA (bX zA Wk.gc w.ae.length 0 w) _=_;rw[h.c,ow rfl];show bX xK Wk.gr w.rows.length 0 w=_;rw[←h.at',rI (d:=xK) (g:=Wk.gr) hj hg hc,e1]
 exact nV e 6
theorem C5.fin(h:C5 mx w w.rows.length):iM mx w 1=(false,w):=by
 show xA (false,w) _=_;rw[ow rfl];show xA (bX zA Wk.gc w.ae.length 0 w) _=_;rw[h.c,ow rfl];show bX xK Wk.gr w.rows.length 0 w=_;rw[←h.at',u9]
theorem IS{n m u:Nat}(G:bh n m u w)(hn:w.no=false)(hc:BA mx w w.ae.length)(h:C5 mx w w.rows.length):uK n m u mx w 0 0 w :=
 ⟨G,hn,rfl,rfl,hc.nc,w,h.fin,(HW (by omega) (by rw[G.S.gc,G.S.nc]) (by rw[G.S.gr,G.S.nr])).symm⟩
end
end Go.Ps
set_option maxRecDepth 10000
set_option maxHeartbeats 2000000
namespace Go.Sv
@[simp] theorem YN{st:St}{f:Go.Fn}{x y:Array Operand}:oU st (.makeFunc f x y)=True:=rfl
end Go.Sv
namespace Go.Ps
open Go Go.Sv Go.Pl Go.Proofs Go.Tb Go.Ut Go.Li
def JZ:Nat→FuncId
 | 0=>61
 | 1=>62
 | 2=>63
 | 3=>64
 | 4=>65
 | _=>66
def DE(n m k:Nat):SV:=.agg [.view (if IY k=true then 4 else 5) 0 (if IY k=true then n else m),.gG (JZ k) [.ptr 0 0 0] []]
def FH(n m:Nat):List SV:=[DE n m 0,DE n m 1,DE n m 2,DE n m 3,DE n m 4,DE n m 5]
theorem Hk(n m:Nat){k:Nat}(hk:k<6):aB (FH n m) k=DE n m k:=by
 rcases k with _ | _ | _ | _ | _ | _ | k;all_goals first | rfl | omega
@[simp] theorem RQ(n m:Nat):SV.aY 6 (FH n m)=false:=by simp[FH,DE,IY]
@[simp] theorem acz(n m:Nat):SV.mb 8 (FH n m)=true:=by simp[FH,DE,IY]
theorem MQ(k:Nat):ak Tryz.prog (JZ k):=by
 rcases k with _ | _ | _ | _ | _ | k;all_goals simp[JZ]
end Go.Ps
namespace Go.Proofs
open Go.Sv Go Go.Tb Go.Pl Go.Ut Go.Li Go.Ps
theorem Wg{n m u:Nat}{w:Wk}{mx:Bool}{s0:Rat}(G:bh n m u w)(hn:w.no=false)(hu8:8≤u)(hu:u≤2400)(h7:n≤7)(h7':m≤7)(hc:Q5 w){k i:Nat}(hi:i<(rm k w).length)(hg:gt (rm k w) i=false) :
  ji Tryz.prog (JZ k) [.ptr 0 0 0,iv i] (aG mx s0 w) [6] (LD mx s0 (BT mx k w i)):=by
 have h1:=G.S.gc;have h2:=G.S.gr;have h3:=G.S.nc;unfold rm at hi hg;rcases k with _ | _ | _ | _ | _ | k;all_goals simp[IY]at hi hg
 ·exact FY G hn (by omega)
 ·exact Ha G hu8 hu h7 h7' (by omega)
 ·exact EI G hu8 hu h7 h7' (by omega)
 ·exact Gt G hu8 hu h7 h7' (by omega) (fun _=>hc i (by omega) hg)
 ·exact Fj G hu8 hu h7 h7' (by omega)
 ·exact Hf G hu8 hu h7 h7' (by omega)
structure OnL where
 k:Nat
 i:Nat
 w:Wk
theorem FQ{n m u:Nat}{w:Wk}{mx:Bool}{s0:Rat}(G:bh n m u w)(hn:w.no=false)(hu8:8≤u)(hu:u≤2400)(h7:n≤7)(h7':m≤7) :
  ji Tryz.prog 30 [.ptr 0 0 0] (aG mx s0 w) [6] (LD mx s0 (ix mx w)):=by
 have nc:=G.S.nc;have nr:=G.S.nr;have ngc:=G.S.gc;have ngr:=G.S.gr;obtain⟨gc7,gr7⟩:=dr G;have tB:=iL hu (c:=ay w.gc) (r:=ay w.gr) (by omega) (by omega);refine bP Tryz.func30 rfl (by simp) (fun C hC=>?_);have hC:C.fx=[0,1,2,3,4,5]:=hC;refine aa.cutAt 2 (fun st=>BA mx w w.ae.length∧st=⟨175,[(0,.ptr 0 0 0)],aG mx s0 w⟩) ?_ ?_
 ·simp only[ar,aq,aG,aS,aR];simp;refine aa.bG (ι:=Nat) (fun j=>⟨175,[(0,.ptr 0 0 0),(18,iv w.ae.length),(19,iv j)],aG mx s0 w⟩)
   (fun j=>j≤w.ae.length∧BA mx w j) (fun j=>w.ae.length - j) 0 ⟨anA _,BA.zero⟩ ?_ ?_
  ·simp[aw,hC,aG,aS,aR];done
  rintro j ⟨hj,hI⟩;simp only[aG,aS,aR];by_cases az:j<w.ae.length
  ·have hjg:j<w.gc.length:=by omega
   have lc:=cZ az;have lg:=bI hjg;have cn:=hI.yc hn az;have cy:=hI.yes az;have cg:=hI.gone az;have wc:=G.W.co j az;have q1:bQ (gt w.ae j).low.at':=ah wc.1 (by omega);have q2:bQ (gt w.ae j).high.at':=ah wc.2.1 (by omega);generalize gt w.ae j=c at *;by_cases hg:gt w.gc j=true
   ·simp(disch:=omega)[az,lc,hjg,lg,hg];repeat refine akI ?_
    exact⟨j+1,⟨by omega,cg hg⟩,by omega,Le.bA (by simp(disch:=omega)[aw,hC,aN])⟩
   ·have hg':gt w.gc j=false:=by simpa using hg
    by_cases h1:c.low.has=true
    ·by_cases h2:c.high.has=true
     ·simp(disch:=omega)[az,lc,hjg,lg,hg',h1,h2];repeat refine akI ?_
      refine akK (tx _ _ q1 q2) ?_;by_cases h3:c.high.at'<c.low.at'
      ·simp(disch:=omega)[h3];repeat refine akI ?_
       rw[cy hg' (by simp[aD,h1,h2,h3])];exact⟨_,_,⟨rfl,rfl⟩,by simp,by simp[aG,aS,aR,dX,da],by simp[aG],.inr ⟨by simp,by simp[aG,eP,aS,aR]⟩⟩
      ·simp(disch:=omega)[h3];repeat refine akI ?_
       exact⟨j+1,⟨by omega,cn (by simp[aD,h3])⟩,by omega,Le.bA (by simp(disch:=omega)[aw,hC,aN])⟩
     ·simp(disch:=omega)[az,lc,hjg,lg,hg',h1,h2];repeat refine akI ?_
      exact⟨j+1,⟨by omega,cn (by simp[aD,h2])⟩,by omega,Le.bA (by simp(disch:=omega)[aw,hC,aN])⟩
    ·simp(disch:=omega)[az,lc,hjg,lg,hg',h1];repeat refine akI ?_
     exact⟨j+1,⟨by omega,cn (by simp[aD,h1])⟩,by omega,Le.bA (by simp(disch:=omega)[aw,hC,aN])⟩
  ·obtain rfl:j=w.ae.length:=by omega
   simp;simp[aw,hC,aG,aS,aR,hI];done
 rintro st ⟨hcr,rfl⟩;simp only[ao,al];refine aa.cutAt 1 (fun st=>C5 mx w w.rows.length∧st=⟨175,[(0,.ptr 0 0 0)],aG mx s0 w⟩) ?_ ?_
 ·simp only[ar,aq,aG,aS,aR];simp;refine aa.bG (ι:=Nat) (fun i=>⟨175,[(0,.ptr 0 0 0),(70,.view 3 0 w.rows.length),(71,iv w.rows.length),(72,iv i)],aG mx s0 w⟩)
   (fun i=>i≤w.rows.length∧C5 mx w i) (fun i=>w.rows.length - i) 0 ⟨anA _,hcr.fin⟩ ?_ ?_
  ·simp[aw,hC,aG,aS,aR];done
  rintro i ⟨hi,hI⟩;simp only[aG,aS,aR];by_cases az:i<w.rows.length
  ·have hig:i<w.gr.length:=by omega
   have lr:=dU az;have lg:=bI hig;have cn:=hI.yc hn az;have cy:=hI.yes az;have cg:=hI.gone az;have wr:=G.W.ro i az;have q1:bQ (gt w.rows i).low.at':=ah wr.1 (by omega);have q2:bQ (gt w.rows i).high.at':=ah wr.2 (by omega);generalize gt w.rows i=r at *;by_cases hg:gt w.gr i=true
   ·simp(disch:=omega)[az,lr,hig,lg,hg];repeat refine akI ?_
    exact⟨i+1,⟨by omega,cg hg⟩,by omega,Le.bA (by simp(disch:=omega)[aw,hC,aN])⟩
   ·have hg':gt w.gr i=false:=by simpa using hg
    by_cases h1:r.low.has=true
    ·by_cases h2:r.high.has=true
     ·simp(disch:=omega)[az,lr,hig,lg,hg',h1,h2];repeat refine akI ?_
      refine akK (tx _ _ q1 q2) ?_;by_cases h3:r.high.at'<r.low.at'
      ·simp(disch:=omega)[h3];repeat refine akI ?_
       rw[cy hg' (by simp[aD,h1,h2,h3])];exact⟨_,_,⟨rfl,rfl⟩,by simp,by simp[aG,aS,aR,dX,da],by simp[aG],.inr ⟨by simp,by simp[aG,eP,aS,aR]⟩⟩
      ·simp(disch:=omega)[h3];repeat refine akI ?_
       exact⟨i+1,⟨by omega,cn (by simp[aD,h3])⟩,by omega,Le.bA (by simp(disch:=omega)[aw,hC,aN])⟩
     ·simp(disch:=omega)[az,lr,hig,lg,hg',h1,h2];repeat refine akI ?_
      exact⟨i+1,⟨by omega,cn (by simp[aD,h2])⟩,by omega,Le.bA (by simp(disch:=omega)[aw,hC,aN])⟩
    ·simp(disch:=omega)[az,lr,hig,lg,hg',h1];repeat refine akI ?_
     exact⟨i+1,⟨by omega,cn (by simp[aD,h1])⟩,by omega,Le.bA (by simp(disch:=omega)[aw,hC,aN])⟩
  ·obtain rfl:i=w.rows.length:=by omega
   simp;simp[aw,hC,aG,aS,aR,hI];done
 rintro st ⟨hcs,rfl⟩;simp only[ao,al];refine aa.gp (fun st=>∃w',iM mx w 7=(false,w')∧st=⟨175,[(0,.ptr 0 0 0)],aG mx s0 w'⟩) ?_ ?_
 ·refine aa.gp (fun st=>st=⟨175,[(0,.ptr 0 0 0),(151,.view 7 0 6),(152,iv 6),(153,iv 0)],aG mx s0 w++[some ⟨2,FH n m,false⟩]⟩) ?_ ?_
  ·simp only[aG,aS,aR];refine aa.akJ (.qs [0,1,2,3,4,5,6,7,8,9,10,11,12,13,14,15,16,17,18,19,20,21,22,23,24,25,26,27,28,29,30,31,32,33,34,35,36,37,38,39,40,41,44]<|.l 42 []<|.qs [43]<|.nil) ?_;simp;exact Le.bA (by simp[aw,hC,aG,aS,aR,FH,DE,JZ,IY,ngc,ngr])
  rintro st rfl;have hst:=IS G hn hcr hcs;clear hcr hcs;refine aa.sn ?_;refine aa.D8 (ι:=OnL) (fun⟨k,_,w'⟩=>⟨175,[(0,.ptr 0 0 0),(151,.view 7 0 6),(152,iv 6),(153,iv k)],aG mx s0 w'++[some ⟨2,FH n m,false⟩]⟩)
   (fun⟨k,_,w'⟩=>k≤6∧(k<6→uK n m u mx w k 0 w')∧(k=6→iM mx w 7=(false,w'))) (fun⟨k,_,w'⟩=>6 - k) ⟨0,0,w⟩ ?_ ?_ ?_
  ·exact⟨by omega,fun _=>hst,fun e=>by omega⟩
  ·simp[aw,hC,aG,aS,aR];done
  rintro⟨k,z0,w'⟩ ⟨hk,hO,hE⟩;refine aa.go ?_;simp only[aG,aS,aR,aly,anu];by_cases az:k<6
  ·have hO:=hO az;have hF:=MQ k;have hl:=Hk n m az;have hru:=fun i w2 (O:uK n m u mx w k i w2) hi hg=>Wg (s0:=s0) O.G O.no hu8 hu h7 h7' O.nc (mx:=mx) (k:=k) (i:=i) hi hg;have hye:=fun i w2 (O:uK n m u mx w k i w2)=>O.yes az;have hna:=fun i w2 (O:uK n m u mx w k i w2)=>O.yc hu8;have hgo:=fun i w2 (O:uK n m u mx w k i w2)=>O.gone;by_cases hcol:IY k=true
   ·have eV:DE n m k=.agg [.view 4 0 n,.gG (JZ k) [.ptr 0 0 0] []]:=by unfold DE;rw[if_pos hcol,if_pos hcol]
    have eL:∀w2,rm k w2=w2.gc:=fun w2=>by unfold rm;rw[if_pos hcol]
    rw[eV]at hl;simp only[eL]at hru hye hna hgo;generalize JZ k=F at *;generalize BT mx k=d at *;have hlt':(k:Int)<6:=by omega
    simp(disch:=omega)[hlt',hl,show(FH n m).length=6 from rfl,az];repeat refine akI ?_
    refine aa.bG (ι:=OnL) (fun⟨_,i,w2⟩=>⟨175,[(0,.ptr 0 0 0),(8,.ptr 8 0 0),(151,.view 7 0 6),(152,iv 6),(153,iv k),(158,.view 4 0 n),(159,iv n),(160,iv i)],aG mx s0 w2++[some ⟨2,FH n m,false⟩,some ⟨2,[.agg [.view 4 0 n,.gG F [.ptr 0 0 0] []]],false⟩]⟩)
     (fun⟨_,i,w2⟩=>i≤n∧uK n m u mx w k i w2) (fun⟨_,i,w2⟩=>n - i) ⟨0,0,w'⟩ ⟨anA _,hO⟩ ?_ ?_
    ·simp[aw,hC,aG,aS,aR];done
    rintro⟨z1,i,w2⟩ ⟨hi,hI⟩;simp only[aG,aS,aR,aly,anu];by_cases hi2:i<n
    ·have hr:=hru i w2 hI;have hy:=hye i w2 hI;have hn:=hna i w2 hI;have hg:=hgo i w2 hI;have ll:i<w2.gc.length:=by have:=hI.G.S.gc;omega
     have lg:=bI ll;by_cases gg:gt w2.gc i=true
     ·simp(disch:=omega)[hi2,ll,lg,gg];exact⟨⟨0,i+1,w2⟩,⟨hi2,hg ll gg⟩,an2 _ _ hi2,Le.bA (by simp(disch:=omega)[aw,hC,aN,aG,aS,aR])⟩
     ·have gg':gt w2.gc i=false:=by simpa using gg
      have hr:=hr ll gg';have hy:=hy ll gg';have hn:=hn ll gg';simp(disch:=omega)[hi2,ll,lg,gg',hF];refine cN hr [0,1,2,3,4,5,6] (by simp) (by simp[aG,aS,aR]) (by simp) (by simp[aG,hC]) (by simp) ?_;rintro T y ⟨rfl,rfl⟩;generalize d w2 i=q at *;obtain⟨b,w3⟩:=q;simp only[aG,aS,aR,aly,anu];cases b with
      | true =>
       simp;rw[hy rfl];exact⟨_,_,⟨rfl,rfl⟩,by simp,by simp[aG,aS,aR,dX],by simp[aG],.inr ⟨by simp,by simp[aG,eP,aS,aR]⟩⟩
      | false =>
       simp;exact⟨⟨0,i+1,w3⟩,⟨hi2,hn rfl⟩,an2 _ _ hi2,Le.bA (by simp(disch:=omega)[aw,hC,aN,aG,aS,aR])⟩
    ·have ei:i=n:=by omega
     have hge:(rm k w2).length≤i:=by rw[eL];have:=hI.G.S.gc;omega
     simp[ei];refine⟨⟨k+1,0,w2⟩,⟨an5 az,fun q=>hI.next q hge,fun q=>?_⟩,an2 _ _ az,Le.bA (by simp(disch:=omega)[aw,hC,aN,aG,aS,aR])⟩;have q:k+1=6:=q;have:=hI.fin hge
     rwa [show k+2=7 by omega]at this
   ·have eV:DE n m k=.agg [.view 5 0 m,.gG (JZ k) [.ptr 0 0 0] []]:=by unfold DE;rw[if_neg hcol,if_neg hcol]
    have eL:∀w2,rm k w2=w2.gr:=fun w2=>by unfold rm;rw[if_neg hcol]
    rw[eV]at hl;simp only[eL]at hru hye hna hgo;generalize JZ k=F at *;generalize BT mx k=d at *;have hlt':(k:Int)<6:=by omega
    simp(disch:=omega)[hlt',hl,show(FH n m).length=6 from rfl,az];repeat refine akI ?_
    refine aa.bG (ι:=OnL) (fun⟨_,i,w2⟩=>⟨175,[(0,.ptr 0 0 0),(8,.ptr 8 0 0),(151,.view 7 0 6),(152,iv 6),(153,iv k),(158,.view 5 0 m),(159,iv m),(160,iv i)],aG mx s0 w2++[some ⟨2,FH n m,false⟩,some ⟨2,[.agg [.view 5 0 m,.gG F [.ptr 0 0 0] []]],false⟩]⟩)
     (fun⟨_,i,w2⟩=>i≤m∧uK n m u mx w k i w2) (fun⟨_,i,w2⟩=>m - i) ⟨0,0,w'⟩ ⟨anA _,hO⟩ ?_ ?_
    ·simp[aw,hC,aG,aS,aR];done
    rintro⟨z1,i,w2⟩ ⟨hi,hI⟩;simp only[aG,aS,aR,aly,anu];by_cases hi2:i<m
    ·have hr:=hru i w2 hI;have hy:=hye i w2 hI;have hn:=hna i w2 hI;have hg:=hgo i w2 hI;have ll:i<w2.gr.length:=by have:=hI.G.S.gr;omega
     have lg:=bI ll;by_cases gg:gt w2.gr i=true
     ·simp(disch:=omega)[hi2,ll,lg,gg];exact⟨⟨0,i+1,w2⟩,⟨hi2,hg ll gg⟩,an2 _ _ hi2,Le.bA (by simp(disch:=omega)[aw,hC,aN,aG,aS,aR])⟩
     ·have gg':gt w2.gr i=false:=by simpa using gg
      have hr:=hr ll gg';have hy:=hy ll gg';have hn:=hn ll gg';simp(disch:=omega)[hi2,ll,lg,gg',hF];refine cN hr [0,1,2,3,4,5,6] (by simp) (by simp[aG,aS,aR]) (by simp) (by simp[aG,hC]) (by simp) ?_;rintro T y ⟨rfl,rfl⟩;generalize d w2 i=q at *;obtain⟨b,w3⟩:=q;simp only[aG,aS,aR,aly,anu];cases b with
      | true =>
       simp;rw[hy rfl];exact⟨_,_,⟨rfl,rfl⟩,by simp,by simp[aG,aS,aR,dX],by simp[aG],.inr ⟨by simp,by simp[aG,eP,aS,aR]⟩⟩
      | false =>
       simp;exact⟨⟨0,i+1,w3⟩,⟨hi2,hn rfl⟩,an2 _ _ hi2,Le.bA (by simp(disch:=omega)[aw,hC,aN,aG,aS,aR])⟩
    ·have ei:i=m:=by omega
     have hge:(rm k w2).length≤i:=by rw[eL];have:=hI.G.S.gr;omega
     simp[ei];refine⟨⟨k+1,0,w2⟩,⟨an5 az,fun q=>hI.next q hge,fun q=>?_⟩,an2 _ _ az,Le.bA (by simp(disch:=omega)[aw,hC,aN,aG,aS,aR])⟩;have q:k+1=6:=q;have:=hI.fin hge
     rwa [show k+2=7 by omega]at this
  ·obtain rfl:k=6:=by omega
   have:=hE rfl;simp;exact⟨_,⟨_,this,rfl⟩,Le.bA (by simp[aw,hC,aG,aS,aR])⟩
 rintro st ⟨w',hE,rfl⟩;have hE:ix mx w=(false,w'):=hE;rw[hE];refine aa.go ?_;simp only[aG,aS,aR];simp;exact⟨_,_,⟨rfl,rfl⟩,by simp,by simp[aG,aS,aR,dX],by simp[aG],.inr ⟨by simp,by simp[aG,eP,aS,aR]⟩⟩
end Go.Proofs

