/- A text of the prover's own. -/
import Derived.Test.YtmghjkkjaolpgaaGreatDoorWIn
set_option maxRecDepth 10000
set_option maxHeartbeats 1000000
namespace Go.Ps
open Go Go.Sv Go.Pl Go.Proofs Go.Tb Go.Ut Go.Li
theorem yp{P:Program}{C:Ctx}{f:FuncId}{args args':List SV}{M:aJ}{W:Option (List Nat)}{K:aJ→List Nat→SV→Prop}(e:kQ args=args')(h:cU P C f args' M W K):cU P C f args M W K :=
 fun β H w vals hd hW=>h β H w vals (by rw[←e];exact nF hd) hW
theorem yl{j:Int}{a:Rat}:kQ [.ptr 0 0 0,.val (.int .i64 j),bs a,.val (.slice none 0 0)]=[.ptr 0 0 0,.val (.int .i64 j),bs a,.ro (([]:List Term).map aW)]:=rfl
theorem w5.of{n m u:Nat}{w:Wk}(G:bh n m u w)(hu8:8≤u)(hu:u≤2400)(h7:n≤7)(h7':m≤7){a:Rat}(ha:qw (qB u (ay w.gc) (ay w.gr)) a):w5 w a [] (qA u (ay w.gc)) (qB u (ay w.gc) (ay w.gr)):=by
 obtain⟨gc7,gr7⟩:=dr G;have pA:=lD hu8 (ay w.gc);have pB:=iY hu8 (ay w.gc) (ay w.gr);have tA:=mh hu (c:=ay w.gc) (by omega);have tB:=iL hu (c:=ay w.gc) (r:=ay w.gr) (by omega) (by omega);exact⟨by omega,by omega,by omega,G.W.te,G.W.ro,fun j hj=>(G.W.co j hj).2.2,G.W.sh,ah ha (by omega),fun k hk=>by simp at hk⟩
end Go.Ps
namespace Go.Proofs
open Go.Sv Go Go.Tb Go.Pl Go.Ut Go.Li Go.Ps
theorem EI{n m u:Nat}{w:Wk}{mx:Bool}{s0:Rat}(G:bh n m u w)(hu8:8≤u)(hu:u≤2400)(h7:n≤7)(h7':m≤7){j:Nat}(hj:j<n) :
  ji Tryz.prog 63 [.ptr 0 0 0,iv j] (aG mx s0 w) [6] (LD mx s0 (su w j)):=by
 have hr:j<w.ae.length:=by rw[G.S.nc];exact hj
 have l1:=cZ hr;have wc:=G.W.co j hr;obtain⟨gc7,gr7⟩:=dr G;have tB:=iL hu (c:=ay w.gc) (r:=ay w.gr) (by omega) (by omega);have gP:=fun a ha=>zn (mx:=mx) (s0:=s0) G.S h7 h7' hj (a:=a) (ts:=[]) (by simp) (fun k hk=>by simp at hk) (w5.of G hu8 hu h7 h7' ha);have q1:bQ (gt w.ae j).low.at':=ah wc.1 (by omega);have q2:bQ (gt w.ae j).high.at':=ah wc.2.1 (by omega);have w1:=wc.1;have e0:su w j=(if alike (gt w.ae j).low (gt w.ae j).high=true then(if(gt w.ae j).whole=true∧(gt w.ae j).low.at'.den≠1 then(true,da w true) else(true,jX w j (gt w.ae j).low.at' [])) else(false,w)):=rfl;refine bP Tryz.func63 rfl (by simp) (fun C hC=>?_);have hC:C.fx=[0,1,2,3,4,5]:=hC;generalize gt w.ae j=c at *;refine aa.cutAt 3 (fun st=>alike c.low c.high=true∧st=⟨54,[(0,.ptr 0 0 0),(1,iv j),(5,.ptr 7 0 0)],aG mx s0 w++[some ⟨16,[bW c],false⟩]⟩) ?_ ?_
 ·simp only[ar,aq,aG,aS,aR];by_cases h1:c.low.has=true
  ·by_cases h2:c.high.has=true
   ·by_cases h3:c.low.at'=c.high.at'
    ·simp(disch:=omega)[hr,l1,h1,h2];repeat refine akI ?_
     refine akK (tx _ _ q1 q2) ?_;simp(disch:=omega)[h3];repeat refine akI ?_
     simp[aw,hC,alike,h1,h2,h3];done
    ·simp(disch:=omega)[hr,l1,h1,h2];repeat refine akI ?_
     refine akK (tx _ _ q1 q2) ?_;simp(disch:=omega)[h3];repeat refine akI ?_
     rw[e0,if_neg (by simp[alike,h3])];exact⟨_,_,⟨rfl,rfl⟩,by simp,by simp[aG,aS,aR,dX],by simp[aG],.inr ⟨by simp,by simp[aG,eP,aS,aR]⟩⟩
   ·simp(disch:=omega)[hr,l1,h1,h2];repeat refine akI ?_
    rw[e0,if_neg (by simp[alike,h2])];exact⟨_,_,⟨rfl,rfl⟩,by simp,by simp[aG,aS,aR,dX],by simp[aG],.inr ⟨by simp,by simp[aG,eP,aS,aR]⟩⟩
  ·simp(disch:=omega)[hr,l1,h1];repeat refine akI ?_
   rw[e0,if_neg (by simp[alike,h1])];exact⟨_,_,⟨rfl,rfl⟩,by simp,by simp[aG,aS,aR,dX],by simp[aG],.inr ⟨by simp,by simp[aG,eP,aS,aR]⟩⟩
 rintro st ⟨ha,rfl⟩;simp only[ao,al];rw[if_pos ha]at e0;refine aa.go ?_;simp only[aG,aS,aR];by_cases hw:c.whole=true
 ·by_cases hd:c.low.at'.den=1
  ·rw[e0,if_neg (by simp[hd])];simp(disch:=omega)[hw];repeat refine akI ?_
   refine akK (eD c.low.at') ?_;simp[hd];refine yp yl ?_;refine cN (gP _ w1) [0,1,2,3,4,5,6] (by simp) (by simp[aG,aS,aR]) (by simp) (by simp[aG,hC]) (by simp) ?_;rintro T y ⟨rfl,rfl⟩;generalize jX w j c.low.at' []=w2;simp only[aG,aS,aR];simp;exact⟨_,_,⟨rfl,rfl⟩,by simp,by simp[aG,aS,aR,dX],by simp[aG],.inr ⟨by simp,by simp[aG,eP,aS,aR]⟩⟩
  ·rw[e0,if_pos ⟨hw,hd⟩];simp(disch:=omega)[hw];repeat refine akI ?_
   refine akK (eD c.low.at') ?_;simp[hd];exact⟨_,_,⟨rfl,rfl⟩,by simp,by simp[aG,aS,aR,dX,da],by simp[aG],.inr ⟨by simp,by simp[aG,eP,aS,aR]⟩⟩
 ·rw[e0,if_neg (by simp[hw])];simp(disch:=omega)[hw];repeat refine akI ?_
  refine yp yl ?_;refine cN (gP _ w1) [0,1,2,3,4,5,6] (by simp) (by simp[aG,aS,aR]) (by simp) (by simp[aG,hC]) (by simp) ?_;rintro T y ⟨rfl,rfl⟩;generalize jX w j c.low.at' []=w2;simp only[aG,aS,aR];simp;exact⟨_,_,⟨rfl,rfl⟩,by simp,by simp[aG,aS,aR,dX],by simp[aG],.inr ⟨by simp,by simp[aG,eP,aS,aR]⟩⟩
end Go.Proofs
set_option maxRecDepth 10000
set_option maxHeartbeats 1000000
namespace Go.Ps
open Go Go.Sv Go.Pl Go.Proofs Go.Tb Go.Ut Go.Li
theorem Bc{w:Wk}{j i:Nat}(h:fU w j i=true):∀k,fU w j (i+k)=true
 | 0=>h
 | k+1=>by
  show(fU w j (i+k)||_)=true;rw[Bc h k];rfl
theorem Gn{w:Wk}{j i k:Nat}(h:fU w j i=true)(hk:i≤k):fU w j k=true:=by
 have:=Bc h (k - i)
 rwa [show i+(k - i)=k by omega]at this
theorem Ej{w:Wk}{j i k:Nat}{n:Nat}(hb:gH n (-1) (gt w.rows i).ab=false)(hg:gt w.gr i=false)(hk:k<(gt w.rows i).ab.length)(h:(gt (gt w.rows i).ab k).aI=(j:Int)):fU w j (i+1)=true:=by
 show(_||(!gt w.gr i&&decide (aP (gt w.rows i).ab j≠0)))=true;have:aP (gt w.rows i).ab j≠0:=fun e=>He hb e k hk h;simp[hg,this]
theorem Iz{w:Wk}{j i:Nat}(h0:fU w j i=false)(h:gt w.gr i=false→∀k,k<(gt w.rows i).ab.length→(gt (gt w.rows i).ab k).aI≠(j:Int)):fU w j (i+1)=false:=by
 show(fU w j i||(!gt w.gr i&&decide (aP (gt w.rows i).ab j≠0)))=false;rw[h0];by_cases hg:gt w.gr i=true
 ·simp[hg]
 ·have hg':gt w.gr i=false:=by simpa using hg
  have:aP (gt w.rows i).ab j=0:=Classical.byContradiction fun e=>by
   obtain⟨k,hk,e2⟩:=zl e;exact h hg' k hk e2
  simp[this]
def NoJ(g:Bool)(ts:List Term)(j k:Nat):Prop:=g=false→∀k',k'<k→(gt ts k').aI≠(j:Int)
theorem CT{q:Rat}(h:0<q):BB q=1:=Int.sign_eq_one_of_pos (Ut.DF.2 h)
theorem CY{q:Rat}(h:q<0):BB q = -1:=Int.sign_eq_neg_one_of_neg (Ut.yG.2 h)
theorem Jb:BB 0=0:=rfl
theorem HE(mx:Bool)(q:Rat):pG mx q=if mx=true then -(BB q) else BB q:=by
 unfold pG;by_cases h0:q=0
 ·subst h0;rw[if_pos rfl,Jb];simp
 ·rw[if_neg h0];by_cases h:0<q
  ·rw[CT h];cases mx<;>simp[h]
  ·have hn:q<0:=by grind
   rw[CY hn];cases mx<;>simp[h]
theorem vA{n m u:Nat}{w:Wk}(G:bh n m u w)(hu8:8≤u){j:Nat}(hj:j<n):bh n m u (bN w j (cA (gt w.ae j) (gt w.ae j).low (gt w.ae j).high)):=by
 have bp:=iY hu8 (ay w.gc) (ay w.gr);obtain⟨w1,w2,w3⟩:=G.W.co j (by rw[G.S.nc];exact hj);have:=qF (k:=qB u (ay w.gc) (ay w.gr)) (c:=gt w.ae j) (by omega) w1 w2 w1 w2;exact⟨sI G.S j _,BW G.W ⟨this.1,this.2,w3⟩⟩
@[simp] theorem adU(σ:Nat→Nat)(q:Rat):dj σ (bs q).cells=(bs q).cells:=cG σ _ rfl
theorem IL(q:Rat) : -1≤BB q∧BB q≤1:=by
 rcases Int.lt_trichotomy (BB q) 0 with h | h | h
 ·rw[CY (KC.1 h)];omega
 ·omega
 ·rw[CT (KD.1 h)];omega
theorem o6{w:Wk}{j:Nat}(h:j<w.ae.length):bN w j (gt w.ae j)=w:=by
 unfold bN;rw[yt h]
theorem uu{w:Wk}{j:Nat}{c:dL}(h:j<w.ae.length):gt (bN w j c).ae j=c:=by
 show gt (w.ae.set j c) j=c;rw[gN h,if_pos rfl]
theorem HK(c:dL):jj (bW c)=bW c:=rfl
end Go.Ps
namespace Go.Proofs
open Go.Sv Go Go.Tb Go.Pl Go.Ut Go.Li Go.Ps
theorem Gt{n m u:Nat}{w:Wk}{mx:Bool}{s0:Rat}(G:bh n m u w)(hu8:8≤u)(hu:u≤2400)(h7:n≤7)(h7':m≤7){j:Nat}(hj:j<n)(hnc:(gt w.ae j).whole=false→aD (gt w.ae j).low (gt w.ae j).high=false) :
  ji Tryz.prog 64 [.ptr 0 0 0,iv j] (aG mx s0 w) [6] (LD mx s0 (fT mx w j)):=by
 have hr:j<w.ae.length:=by rw[G.S.nc];exact hj
 have l1:=cZ hr;have nr:=G.S.nr;have nrg:=G.S.gr;obtain⟨gc7,gr7⟩:=dr G;have tB:=iL hu (c:=ay w.gc) (r:=ay w.gr) (by omega) (by omega);have bp:=iY hu8 (ay w.gc) (ay w.gr);obtain⟨c,ec⟩:∃c,(if(gt w.ae j).whole=true then cA (gt w.ae j) (gt w.ae j).low (gt w.ae j).high else gt w.ae j)=c:=⟨_,rfl⟩;have G1:bh n m u (bN w j c):=by
  rw[←ec];split
  ·exact vA G hu8 hj
  ·rw[o6 hr];exact G
 have e0:fU w j w.rows.length=false→fT mx w j=(if aD c.low c.high=true then(true,da (bN w j c) true) else if(cY mx c).has=true then(true,jX (bN w j c) j (cY mx c).at' []) else(false,bN w j c)):=fun h=>by
  unfold fT;rw[if_neg (by simp[h])];simp only[];rw[ec]
 have e1:fU w j w.rows.length=true→fT mx w j=(false,w):=fun h=>by unfold fT;rw[if_pos h]
 refine bP Tryz.func64 rfl (by simp) (fun C hC=>?_);have hC:C.fx=[0,1,2,3,4,5]:=hC;refine aa.cutAt 2 (fun st=>fU w j m=false∧st=⟨157,[(0,.ptr 0 0 0),(1,iv j)],aG mx s0 w⟩) ?_ ?_
 ·simp only[ar,aq,aG,aS,aR];simp;refine aa.bG (ι:=Nat) (fun i=>⟨157,[(0,.ptr 0 0 0),(1,iv j),(20,.view 3 0 m),(21,iv m),(22,iv i)],aG mx s0 w⟩)
   (fun i=>i≤m∧fU w j i=false) (fun i=>m - i) 0 ⟨Nat.zero_le _,rfl⟩ ?_ ?_
  ·simp[aw,hC,aG,aS,aR,nr];done
  rintro i ⟨hi,hI⟩;simp only[aG,aS,aR];by_cases az:i<m
  ·have hir:i<w.rows.length:=by omega
   have hig:i<w.gr.length:=by omega
   have lr:=dU hir;have lg:=bI hig;have hbt:=G.S.te i az;have iy:=fun k hg hk h=>Ej (j:=j) (k:=k) hbt hg hk h;have ino:=Iz hI;have tl7:(gt w.rows i).ab.length≤7:=by have:=ic hbt;omega
   generalize gt w.rows i=r at *;simp(disch:=omega)[az,hir,lr];repeat refine akI ?_
   refine aa.bG (ι:=Nat) (fun k=>⟨157,[(0,.ptr 0 0 0),(1,iv j),(5,iv i),(20,.view 3 0 m),(21,iv m),(22,iv i),(28,.ro (r.ab.map aW)),(29,iv r.ab.length),(30,iv k)],aG mx s0 w++[some ⟨12,[bE r],false⟩]⟩)
    (fun k=>k≤r.ab.length∧NoJ (gt w.gr i) r.ab j k) (fun k=>r.ab.length - k) 0 ?_ ?_ ?_
   ·exact⟨Nat.zero_le _,fun _ k hk=>by omega⟩
   ·simp[aw,hC,aG,aS,aR];done
   rintro k ⟨hk,hK⟩;simp only[aG,aS,aR,List.cons_append,List.nil_append];by_cases hkl:k<r.ab.length
   ·have lt:=dZ hkl;have hst:=fun hg h=>@Kx (fun k'=>(gt r.ab k').aI≠(j:Int)) k (hK hg) h;by_cases hg:gt w.gr i=true
    ·simp(disch:=omega)[hkl,lt,hig,lg,hg];repeat refine akI ?_
     exact⟨k+1,⟨by omega,fun h=>by cases h⟩,by omega,Le.bA (by simp(disch:=omega)[aw,hC,aN])⟩
    ·have hg':gt w.gr i=false:=by simpa using hg
     have iy':=iy k hg' hkl;by_cases hcj:(gt r.ab k).aI=(j:Int)
     ·simp(disch:=omega)[hkl,lt,hig,lg,hg',hcj];repeat refine akI ?_
      rw[e1 (Gn (iy' hcj) (by omega))];exact⟨_,_,⟨rfl,rfl⟩,by simp,by simp[aG,aS,aR,dX],by simp[aG],.inr ⟨by simp,by simp[aG,eP,aS,aR]⟩⟩
     ·simp(disch:=omega)[hkl,lt,hig,lg,hg',hcj];repeat refine akI ?_
      exact⟨k+1,⟨by omega,fun h=>hst hg' hcj⟩,by omega,Le.bA (by simp(disch:=omega)[aw,hC,aN])⟩
   ·obtain rfl:k=r.ab.length:=by omega
    simp;exact⟨i+1,⟨by omega,ino hK⟩,by omega,Le.bA (by simp(disch:=omega)[aw,hC,aN,aG,aS,aR])⟩
  ·obtain rfl:i=m:=by omega
   simp;simp[aw,hC,aG,aS,aR,hI];done
 rintro st ⟨hI,rfl⟩;rw[←nr]at hI;rw[e0 hI];simp only[ao,al];have c1:=G1.W.co j (by rw[G1.S.nc];exact hj);rw[uu hr]at c1;have gP:=fun a ha=>zn (mx:=mx) (s0:=s0) G1.S h7 h7' hj (a:=a) (ts:=[]) (by simp) (fun k hk=>by simp at hk) (w5.of G1 hu8 hu h7 h7' ha);have q1:bQ c.low.at':=ah c1.1 (by show qB u (ay w.gc) (ay w.gr)≤_;omega);have q2:bQ c.high.at':=ah c1.2.1 (by show qB u (ay w.gc) (ay w.gr)≤_;omega);refine aa.gp (fun st=>st=⟨157,[(0,.ptr 0 0 0),(1,iv j),(9,.ptr 7 0 0)],aG mx s0 w++[some ⟨16,[bW (gt w.ae j)],false⟩]⟩) ?_ ?_
 ·refine aa.go ?_;simp only[aG,aS,aR];simp(disch:=omega)[hr,l1];repeat refine akI ?_
  exact Le.bA (by simp[aw,hC,aG,aS,aR])
 rintro st rfl;refine aa.gp (fun st=>aD c.low c.high=false∧st=⟨157,[(0,.ptr 0 0 0),(1,iv j),(9,.ptr 7 0 0)],aG mx s0 (bN w j c)++[some ⟨16,[bW c],false⟩]⟩) ?_ ?_
 ·refine aa.nP (aa.im (nq.go ?_));simp only[aG,aS,aR];simp;by_cases hw:(gt w.ae j).whole=true
  ·rw[if_pos hw]at ec;have w0:=G.W.co j hr;have p1:bQ (gt w.ae j).low.at':=ah w0.1 (by omega);have p2:bQ (gt w.ae j).high.at':=ah w0.2.1 (by omega);have gT:=kY (u:=u) (mx:=mx) (s0:=s0) G.S hj p1 p2 p1 p2;rw[ec]at gT;have hr1:j<(bN w j c).ae.length:=by rw[G1.S.nc];exact hj
   have lc:=cZ hr1;rw[uu hr]at lc;clear ec e0 e1;generalize gt w.ae j=c0 at *;refine aa.gD true (by simp[hw]) (fun _=>?_) (fun q=>by cases q);refine aa.go ?_;refine aa.zX (.d 4<|.d 5<|.qs [0,1,2]<|.q 3 [8]<|.b (.l 6 [8]<|.l 7 [9]<|.nil)) (by kernel_rfl) (by kernel_rfl) (by simp) ?_;simp;refine cN gT [0,1,2,3,4,5,6] (by simp) (by simp[aG,aS,aR]) (by simp) (by simp[aG,hC]) (by simp) ?_;rintro T y ⟨rfl,rfl⟩;generalize bN w j c=w1 at *;simp only[aG,aS,aR];simp(disch:=omega)[hr1,lc];repeat refine akI ?_
   by_cases h1:c.low.has=true
   ·by_cases h2:c.high.has=true
    ·simp(disch:=omega)[h1,h2];repeat refine akI ?_
     refine akK (tx _ _ q1 q2) ?_;by_cases h3:c.high.at'<c.low.at'
     ·simp(disch:=omega)[h3];repeat refine akI ?_
      rw[if_pos (by simp[aD,h1,h2,h3])];exact⟨_,_,⟨rfl,rfl⟩,by simp,by simp[aG,aS,aR,dX,da],by simp[aG],.inr ⟨by simp,by simp[aG,eP,aS,aR]⟩⟩
     ·simp(disch:=omega)[h3];repeat refine akI ?_
      exact⟨_,⟨by simp[aD,h1,h2,h3],rfl⟩,Le.bA (by simp[aw,hC,aG,aS,aR])⟩
    ·simp(disch:=omega)[h1,h2];repeat refine akI ?_
     exact⟨_,⟨by simp[aD,h1,h2],rfl⟩,Le.bA (by simp[aw,hC,aG,aS,aR])⟩
   ·simp(disch:=omega)[h1];repeat refine akI ?_
    exact⟨_,⟨by simp[aD,h1],rfl⟩,Le.bA (by simp[aw,hC,aG,aS,aR])⟩
  ·rw[if_neg hw]at ec;have hnc':=hnc (by simpa using hw);rw[ec]at hnc' hw ⊢;rw[←ec,o6 hr,ec];refine aa.gD false (by simp[hw]) (fun q=>by cases q) (fun _=>?_);refine aa.go ?_;simp;exact⟨_,⟨hnc',rfl⟩,Le.bA (by simp[aw,hC])⟩
 rintro st ⟨hc,rfl⟩;rw[if_neg (by simp[hc])];have hcb:qw (qB u (ay (bN w j c).gc) (ay (bN w j c).gr)) (cY mx c).at':=yM (mx:=mx) (k:=qB u (ay w.gc) (ay w.gr)) (by omega) c1.1 c1.2.1;have gP:=gP _ hcb;refine aa.cutAt 2 (fun st=>st=⟨157,[(0,.ptr 0 0 0),(1,iv j),(9,.ptr 7 0 0),(12,iv (pG mx c.cost))],aG mx s0 (bN w j c)++[some ⟨16,[bW c],false⟩]⟩) ?_ ?_
 ·simp only[ar,aq,aG,aS,aR];simp;refine akK (pd c.cost) ?_;have sb:=IL c.cost;rw[HE];cases mx with
  | true =>
   simp;simp(disch:=omega)[aw,hC,aG,aS,aR,aN]
  | false =>
   simp;simp[aw,hC,aG,aS,aR]
 rintro st rfl;simp only[ao,al];clear hcb;refine aa.cutAt 1 (fun st=>st=⟨157,[(0,.ptr 0 0 0),(1,iv j),(9,.ptr 7 0 0),(12,iv (pG mx c.cost)),(13,.ptr 8 0 0)],aG mx s0 (bN w j c)++[some ⟨16,[bW c],false⟩,some ⟨4,[zR],false⟩]⟩) ?_ ?_
 ·simp only[ar,aq,aG,aS,aR];simp[aw,hC,zR];done
 rintro st rfl;simp only[ao,al];refine aa.le (BU (fr':=[(0,.ptr 0 0 0),(1,iv j),(9,.ptr 7 0 0),(12,iv (pG mx c.cost)),(13,.ptr 8 0 0)]) (tl':=[some ⟨16,[bW c],false⟩,some ⟨4,[bs 0],false⟩]) (by simp[E7]) (by
  have e:jj zR=bs 0:=by rw[←KK];rfl
  simp[wW,aG,aS,aR,dX,e,kQ,HK]) rfl) ?_
 refine aa.cutAt 1 (fun st=>(cY mx c).has=true∧st=⟨157,[(0,.ptr 0 0 0),(1,iv j),(13,.ptr 8 0 0)],aG mx s0 (bN w j c)++[some ⟨16,[bW c],false⟩,some ⟨4,[bs (cY mx c).at'],false⟩]⟩) ?_ ?_
 ·simp only[ar,aq];clear gP;generalize bN w j c=w1 at *;simp only[aG,aS,aR];by_cases s1:0<pG mx c.cost
  ·by_cases b1:c.low.has=true
   ·have hb:cY mx c=c.low:=by unfold Go.Ps.cY;simp[b1,show ¬pG mx c.cost<0 by omega,show ¬pG mx c.cost=0 by omega]
    simp(disch:=omega)[s1,b1];repeat refine akI ?_
    rw[hb];exact⟨_,⟨b1,rfl⟩,by simp[aw,hC,aG,aS,aR]⟩
   ·have hb:cY mx c=c.low:=by unfold Go.Ps.cY;simp[b1,show ¬pG mx c.cost<0 by omega,show ¬pG mx c.cost=0 by omega]
    simp(disch:=omega)[s1,b1,show ¬pG mx c.cost<0 by omega,show ¬pG mx c.cost=0 by omega];repeat refine akI ?_
    rw[hb,if_neg b1];exact⟨_,_,⟨rfl,rfl⟩,by simp,by simp[aG,aS,aR,dX],by simp[aG],.inr ⟨by simp,by simp[aG,eP,aS,aR]⟩⟩
  ·by_cases s2:pG mx c.cost<0
   ·by_cases b1:c.high.has=true
    ·have hb:cY mx c=c.high:=by unfold Go.Ps.cY;simp[b1,s2,show ¬pG mx c.cost=0 by omega]
     simp(disch:=omega)[s1,s2,b1];repeat refine akI ?_
     rw[hb];exact⟨_,⟨b1,rfl⟩,by simp[aw,hC,aG,aS,aR]⟩
    ·have hb:cY mx c=c.high:=by unfold Go.Ps.cY;simp[b1,s2,show ¬pG mx c.cost=0 by omega]
     simp(disch:=omega)[s1,s2,b1,show ¬pG mx c.cost=0 by omega];repeat refine akI ?_
     rw[hb,if_neg b1];exact⟨_,_,⟨rfl,rfl⟩,by simp,by simp[aG,aS,aR,dX],by simp[aG],.inr ⟨by simp,by simp[aG,eP,aS,aR]⟩⟩
   ·have s3:pG mx c.cost=0:=by omega
    by_cases b1:c.low.has=true
    ·have hb:cY mx c=c.low:=by unfold Go.Ps.cY;simp[b1,s3]
     simp(disch:=omega)[s3,b1];repeat refine akI ?_
     rw[hb];exact⟨_,⟨b1,rfl⟩,by simp[aw,hC,aG,aS,aR]⟩
    ·by_cases b2:c.high.has=true
     ·have hb:cY mx c=c.high:=by unfold Go.Ps.cY;simp[b1,b2,s3]
      simp(disch:=omega)[s3,b1,b2];repeat refine akI ?_
      rw[hb];exact⟨_,⟨b2,rfl⟩,by simp[aw,hC,aG,aS,aR]⟩
     ·have hb:cY mx c=⟨true,0⟩:=by unfold Go.Ps.cY;simp[b1,b2,s3]
      simp(disch:=omega)[s3,b1,b2];repeat refine akI ?_
      rw[hb];exact⟨_,⟨rfl,rfl⟩,by simp[aw,hC,aG,aS,aR]⟩
 rintro st ⟨hb,rfl⟩;rw[if_pos hb];simp only[ao,al];refine aa.go ?_;generalize bN w j c=w1 at *;simp only[aG,aS,aR];simp;refine yp yl ?_;refine cN gP [0,1,2,3,4,5,6] (by simp) (by simp[aG,aS,aR]) (by simp) (by simp[aG,hC]) (by simp) ?_;rintro T y ⟨rfl,rfl⟩;generalize jX w1 j (cY mx c).at' []=w2;simp only[aG,aS,aR];simp;exact⟨_,_,⟨rfl,rfl⟩,by simp,by simp[aG,aS,aR,dX],by simp[aG],.inr ⟨by simp,by simp[aG,eP,aS,aR]⟩⟩
end Go.Proofs

