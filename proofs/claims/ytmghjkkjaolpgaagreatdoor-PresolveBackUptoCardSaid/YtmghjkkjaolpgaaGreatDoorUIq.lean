/- A text of the prover's own. -/
import Derived.Test.YtmghjkkjaolpgaaGreatDoorUIn
set_option maxRecDepth 10000
set_option maxHeartbeats 1000000
namespace Go.Ps
open Go Go.Sv Go.Pl Go.Proofs Go.Tb Go.Ut Go.Li
theorem zo{P:Program}{C:Ctx}{f:FuncId}{args args':List SV}{M:aJ}{W:Option (List Nat)}{K:aJ→List Nat→SV→Prop}(e:jQ args=args')(h:dH P C f args' M W K):dH P C f args M W K :=
 fun β H w vals hd hW=>h β H w vals (by rw[←e];exact qL hd) hW
theorem Ab{j:Int}{a:Rat}:jQ [.ptr 0 0 0,.val (.int .i64 j),aY a,.val (.slice none 0 0)]=[.ptr 0 0 0,.val (.int .i64 j),aY a,.ro (([]:List Term).map aT)]:=rfl
theorem Fo.of{n m u:Nat}{w:Wk}(G:aW n m u w)(hu8:8≤u)(hu:u≤2400)(h7:n≤7)(h7':m≤7){a:Rat}(ha:qw (qB u (aD w.gc) (aD w.gr)) a):Fo w a [] (qA u (aD w.gc)) (qB u (aD w.gc) (aD w.gr)):=by
 obtain⟨gc7,gr7⟩:=fm G;have pA:=pO hu8 (aD w.gc);have pB:=l4 hu8 (aD w.gc) (aD w.gr);have tA:=vg hu (c:=aD w.gc) (by omega);have tB:=na hu (c:=aD w.gc) (r:=aD w.gr) (by omega) (by omega);exact⟨by omega,by omega,by omega,G.W.te,G.W.ro,fun j hj=>(G.W.co j hj).2.2,G.W.sh,ah ha (by omega),fun k hk=>by simp at hk⟩
end Go.Ps
namespace Go.Proofs
open Go.Sv Go Go.Tb Go.Pl Go.Ut Go.Li Go.Ps
theorem FU{n m u:Nat}{w:Wk}{mx:Bool}{s0:Rat}(G:aW n m u w)(hu8:8≤u)(hu:u≤2400)(h7:n≤7)(h7':m≤7){j:Nat}(hj:j<n) :
  mw Tryz.prog 63 [.ptr 0 0 0,iv j] (aC mx s0 w) [6] (Mq mx s0 (o3 w j)):=by
 have hr:j<w.aa.length:=by rw[G.S.nc];exact hj
 have l1:=cX hr;have wc:=G.W.co j hr;obtain⟨gc7,gr7⟩:=fm G;have tB:=na hu (c:=aD w.gc) (r:=aD w.gr) (by omega) (by omega);have gP:=fun a ha=>y8 (mx:=mx) (s0:=s0) G.S h7 h7' hj (a:=a) (ts:=[]) (by simp) (fun k hk=>by simp at hk) (Fo.of G hu8 hu h7 h7' ha);have q1:dE (gt w.aa j).low.at':=ah wc.1 (by omega);have q2:dE (gt w.aa j).high.at':=ah wc.2.1 (by omega);have w1:=wc.1;have e0:o3 w j=(if alike (gt w.aa j).low (gt w.aa j).high=true then(if(gt w.aa j).whole=true∧(gt w.aa j).low.at'.den≠1 then(true,eD w true) else(true,k8 w j (gt w.aa j).low.at' [])) else(false,w)):=rfl;refine dK Tryz.func63 rfl (by simp) (fun C hC=>?_);have hC:C.fx=[0,1,2,3,4,5]:=hC;generalize gt w.aa j=c at *;refine ae.cutAt 3 (fun st=>alike c.low c.high=true∧st=⟨54,[(0,.ptr 0 0 0),(1,iv j),(5,.ptr 7 0 0)],aC mx s0 w++[some ⟨16,[bS c],false⟩]⟩) ?_ ?_
 ·simp only[aG,aE,aC,aQ,aR];by_cases h1:c.low.has=true
  ·by_cases h2:c.high.has=true
   ·by_cases h3:c.low.at'=c.high.at'
    ·simp(disch:=omega)[hr,l1,h1,h2];repeat refine alR ?_
     refine alT (tJ _ _ q1 q2) ?_;simp(disch:=omega)[h3];repeat refine alR ?_
     simp[ar,hC,alike,h1,h2,h3];done
    ·simp(disch:=omega)[hr,l1,h1,h2];repeat refine alR ?_
     refine alT (tJ _ _ q1 q2) ?_;simp(disch:=omega)[h3];repeat refine alR ?_
     rw[e0,if_neg (by simp[alike,h3])];exact⟨_,_,⟨rfl,rfl⟩,by simp,by simp[aC,aQ,aR,iS],by simp[aC],.inr ⟨by simp,by simp[aC,j6,aQ,aR]⟩⟩
   ·simp(disch:=omega)[hr,l1,h1,h2];repeat refine alR ?_
    rw[e0,if_neg (by simp[alike,h2])];exact⟨_,_,⟨rfl,rfl⟩,by simp,by simp[aC,aQ,aR,iS],by simp[aC],.inr ⟨by simp,by simp[aC,j6,aQ,aR]⟩⟩
  ·simp(disch:=omega)[hr,l1,h1];repeat refine alR ?_
   rw[e0,if_neg (by simp[alike,h1])];exact⟨_,_,⟨rfl,rfl⟩,by simp,by simp[aC,aQ,aR,iS],by simp[aC],.inr ⟨by simp,by simp[aC,j6,aQ,aR]⟩⟩
 rintro st ⟨ha,rfl⟩;simp only[ax,au];rw[if_pos ha]at e0;refine ae.go ?_;simp only[aC,aQ,aR];by_cases hw:c.whole=true
 ·by_cases hd:c.low.at'.den=1
  ·rw[e0,if_neg (by simp[hd])];simp(disch:=omega)[hw];repeat refine alR ?_
   refine alT (eP c.low.at') ?_;simp[hd];refine zo Ab ?_;refine fy (gP _ w1) [0,1,2,3,4,5,6] (by simp) (by simp[aC,aQ,aR]) (by simp) (by simp[aC,hC]) (by simp) ?_;rintro T y ⟨rfl,rfl⟩;generalize k8 w j c.low.at' []=w2;simp only[aC,aQ,aR];simp;exact⟨_,_,⟨rfl,rfl⟩,by simp,by simp[aC,aQ,aR,iS],by simp[aC],.inr ⟨by simp,by simp[aC,j6,aQ,aR]⟩⟩
  ·rw[e0,if_pos ⟨hw,hd⟩];simp(disch:=omega)[hw];repeat refine alR ?_
   refine alT (eP c.low.at') ?_;simp[hd];exact⟨_,_,⟨rfl,rfl⟩,by simp,by simp[aC,aQ,aR,iS,eD],by simp[aC],.inr ⟨by simp,by simp[aC,j6,aQ,aR]⟩⟩
 ·rw[e0,if_neg (by simp[hw])];simp(disch:=omega)[hw];repeat refine alR ?_
  refine zo Ab ?_;refine fy (gP _ w1) [0,1,2,3,4,5,6] (by simp) (by simp[aC,aQ,aR]) (by simp) (by simp[aC,hC]) (by simp) ?_;rintro T y ⟨rfl,rfl⟩;generalize k8 w j c.low.at' []=w2;simp only[aC,aQ,aR];simp;exact⟨_,_,⟨rfl,rfl⟩,by simp,by simp[aC,aQ,aR,iS],by simp[aC],.inr ⟨by simp,by simp[aC,j6,aQ,aR]⟩⟩
end Go.Proofs
set_option maxRecDepth 10000
set_option maxHeartbeats 1000000
namespace Go.Ps
open Go Go.Sv Go.Pl Go.Proofs Go.Tb Go.Ut Go.Li
theorem A5{w:Wk}{j i:Nat}(h:kg w j i=true):∀k,kg w j (i+k)=true
 | 0=>h
 | k+1=>by
  show(kg w j (i+k)||_)=true;rw[A5 h k];rfl
theorem Ip{w:Wk}{j i k:Nat}(h:kg w j i=true)(hk:i≤k):kg w j k=true:=by
 have:=A5 h (k - i)
 rwa [show i+(k - i)=k by omega]at this
theorem F3{w:Wk}{j i k:Nat}{n:Nat}(hb:fB n (-1) (gt w.rows i).ab=false)(hg:gt w.gr i=false)(hk:k<(gt w.rows i).ab.length)(h:(gt (gt w.rows i).ab k).aq=(j:Int)):kg w j (i+1)=true:=by
 show(_||(!gt w.gr i&&decide (aS (gt w.rows i).ab j≠0)))=true;have:aS (gt w.rows i).ab j≠0:=fun e=>Ik hb e k hk h;simp[hg,this]
theorem I2{w:Wk}{j i:Nat}(h0:kg w j i=false)(h:gt w.gr i=false→∀k,k<(gt w.rows i).ab.length→(gt (gt w.rows i).ab k).aq≠(j:Int)):kg w j (i+1)=false:=by
 show(kg w j i||(!gt w.gr i&&decide (aS (gt w.rows i).ab j≠0)))=false;rw[h0];by_cases hg:gt w.gr i=true
 ·simp[hg]
 ·have hg':gt w.gr i=false:=by simpa using hg
  have:aS (gt w.rows i).ab j=0:=Classical.byContradiction fun e=>by
   obtain⟨k,hk,e2⟩:=Ac e;exact h hg' k hk e2
  simp[this]
def NoJ(g:Bool)(ts:List Term)(j k:Nat):Prop:=g=false→∀k',k'<k→(gt ts k').aq≠(j:Int)
theorem ER{q:Rat}(h:0<q):Cj q=1:=Int.sign_eq_one_of_pos (Ut.En.2 h)
theorem Ed{q:Rat}(h:q<0):Cj q = -1:=Int.sign_eq_neg_one_of_neg (Ut.za.2 h)
theorem KV:Cj 0=0:=rfl
theorem OK(mx:Bool)(q:Rat):qj mx q=if mx=true then -(Cj q) else Cj q:=by
 unfold qj;by_cases h0:q=0
 ·subst h0;rw[if_pos rfl,KV];simp
 ·rw[if_neg h0];by_cases h:0<q
  ·rw[ER h];cases mx<;>simp[h]
  ·have hn:q<0:=by grind
   rw[Ed hn];cases mx<;>simp[h]
theorem Cv{n m u:Nat}{w:Wk}(G:aW n m u w)(hu8:8≤u){j:Nat}(hj:j<n):aW n m u (cD w j (bg (gt w.aa j) (gt w.aa j).low (gt w.aa j).high)):=by
 have bp:=l4 hu8 (aD w.gc) (aD w.gr);obtain⟨w1,w2,w3⟩:=G.W.co j (by rw[G.S.nc];exact hj);have:=rj (k:=qB u (aD w.gc) (aD w.gr)) (c:=gt w.aa j) (by omega) w1 w2 w1 w2;exact⟨pq G.S j _,Dm G.W ⟨this.1,this.2,w3⟩⟩
@[simp] theorem af0(σ:Nat→Nat)(q:Rat):dC σ (aY q).cells=(aY q).cells:=cY σ _ rfl
theorem N7(q:Rat) : -1≤Cj q∧Cj q≤1:=by
 rcases Int.lt_trichotomy (Cj q) 0 with h | h | h
 ·rw[Ed (Lx.1 h)];omega
 ·omega
 ·rw[ER (LP.1 h)];omega
theorem xQ{w:Wk}{j:Nat}(h:j<w.aa.length):cD w j (gt w.aa j)=w:=by
 unfold cD;rw[zW h]
theorem DN{w:Wk}{j:Nat}{c:df}(h:j<w.aa.length):gt (cD w j c).aa j=c:=by
 show gt (w.aa.set j c) j=c;rw[dM h,if_pos rfl]
theorem Ig(c:df):iR (bS c)=bS c:=rfl
end Go.Ps
namespace Go.Proofs
open Go.Sv Go Go.Tb Go.Pl Go.Ut Go.Li Go.Ps
theorem GH{n m u:Nat}{w:Wk}{mx:Bool}{s0:Rat}(G:aW n m u w)(hu8:8≤u)(hu:u≤2400)(h7:n≤7)(h7':m≤7){j:Nat}(hj:j<n)(hnc:(gt w.aa j).whole=false→aH (gt w.aa j).low (gt w.aa j).high=false) :
  mw Tryz.prog 64 [.ptr 0 0 0,iv j] (aC mx s0 w) [6] (Mq mx s0 (iq mx w j)):=by
 have hr:j<w.aa.length:=by rw[G.S.nc];exact hj
 have l1:=cX hr;have nr:=G.S.nr;have nrg:=G.S.gr;obtain⟨gc7,gr7⟩:=fm G;have tB:=na hu (c:=aD w.gc) (r:=aD w.gr) (by omega) (by omega);have bp:=l4 hu8 (aD w.gc) (aD w.gr);obtain⟨c,ec⟩:∃c,(if(gt w.aa j).whole=true then bg (gt w.aa j) (gt w.aa j).low (gt w.aa j).high else gt w.aa j)=c:=⟨_,rfl⟩;have G1:aW n m u (cD w j c):=by
  rw[←ec];split
  ·exact Cv G hu8 hj
  ·rw[xQ hr];exact G
 have e0:kg w j w.rows.length=false→iq mx w j=(if aH c.low c.high=true then(true,eD (cD w j c) true) else if(dt mx c).has=true then(true,k8 (cD w j c) j (dt mx c).at' []) else(false,cD w j c)):=fun h=>by
  unfold iq;rw[if_neg (by simp[h])];simp only[];rw[ec]
 have e1:kg w j w.rows.length=true→iq mx w j=(false,w):=fun h=>by unfold iq;rw[if_pos h]
 refine dK Tryz.func64 rfl (by simp) (fun C hC=>?_);have hC:C.fx=[0,1,2,3,4,5]:=hC;refine ae.cutAt 2 (fun st=>kg w j m=false∧st=⟨157,[(0,.ptr 0 0 0),(1,iv j)],aC mx s0 w⟩) ?_ ?_
 ·simp only[aG,aE,aC,aQ,aR];simp;refine ae.cq (ι:=Nat) (fun i=>⟨157,[(0,.ptr 0 0 0),(1,iv j),(20,.view 3 0 m),(21,iv m),(22,iv i)],aC mx s0 w⟩)
   (fun i=>i≤m∧kg w j i=false) (fun i=>m - i) 0 ⟨Nat.zero_le _,rfl⟩ ?_ ?_
  ·simp[ar,hC,aC,aQ,aR,nr];done
  rintro i ⟨hi,hI⟩;simp only[aC,aQ,aR];by_cases aF:i<m
  ·have hir:i<w.rows.length:=by omega
   have hig:i<w.gr.length:=by omega
   have lr:=dX hir;have lg:=dO hig;have hbt:=G.S.te i aF;have iy:=fun k hg hk h=>F3 (j:=j) (k:=k) hbt hg hk h;have ino:=I2 hI;have tl7:(gt w.rows i).ab.length≤7:=by have:=ko hbt;omega
   generalize gt w.rows i=r at *;simp(disch:=omega)[aF,hir,lr];repeat refine alR ?_
   refine ae.cq (ι:=Nat) (fun k=>⟨157,[(0,.ptr 0 0 0),(1,iv j),(5,iv i),(20,.view 3 0 m),(21,iv m),(22,iv i),(28,.ro (r.ab.map aT)),(29,iv r.ab.length),(30,iv k)],aC mx s0 w++[some ⟨12,[bE r],false⟩]⟩)
    (fun k=>k≤r.ab.length∧NoJ (gt w.gr i) r.ab j k) (fun k=>r.ab.length - k) 0 ?_ ?_ ?_
   ·exact⟨Nat.zero_le _,fun _ k hk=>by omega⟩
   ·simp[ar,hC,aC,aQ,aR];done
   rintro k ⟨hk,hK⟩;simp only[aC,aQ,aR,List.cons_append,List.nil_append];by_cases hkl:k<r.ab.length
   ·have lt:=eu hkl;have hst:=fun hg h=>@yF (fun k'=>(gt r.ab k').aq≠(j:Int)) k (hK hg) h;by_cases hg:gt w.gr i=true
    ·simp(disch:=omega)[hkl,lt,hig,lg,hg];repeat refine alR ?_
     exact⟨k+1,⟨by omega,fun h=>by cases h⟩,by omega,Le.ct (by simp(disch:=omega)[ar,hC,aP])⟩
    ·have hg':gt w.gr i=false:=by simpa using hg
     have iy':=iy k hg' hkl;by_cases hcj:(gt r.ab k).aq=(j:Int)
     ·simp(disch:=omega)[hkl,lt,hig,lg,hg',hcj];repeat refine alR ?_
      rw[e1 (Ip (iy' hcj) (by omega))];exact⟨_,_,⟨rfl,rfl⟩,by simp,by simp[aC,aQ,aR,iS],by simp[aC],.inr ⟨by simp,by simp[aC,j6,aQ,aR]⟩⟩
     ·simp(disch:=omega)[hkl,lt,hig,lg,hg',hcj];repeat refine alR ?_
      exact⟨k+1,⟨by omega,fun h=>hst hg' hcj⟩,by omega,Le.ct (by simp(disch:=omega)[ar,hC,aP])⟩
   ·obtain rfl:k=r.ab.length:=by omega
    simp;exact⟨i+1,⟨by omega,ino hK⟩,by omega,Le.ct (by simp(disch:=omega)[ar,hC,aP,aC,aQ,aR])⟩
  ·obtain rfl:i=m:=by omega
   simp;simp[ar,hC,aC,aQ,aR,hI];done
 rintro st ⟨hI,rfl⟩;rw[←nr]at hI;rw[e0 hI];simp only[ax,au];have c1:=G1.W.co j (by rw[G1.S.nc];exact hj);rw[DN hr]at c1;have gP:=fun a ha=>y8 (mx:=mx) (s0:=s0) G1.S h7 h7' hj (a:=a) (ts:=[]) (by simp) (fun k hk=>by simp at hk) (Fo.of G1 hu8 hu h7 h7' ha);have q1:dE c.low.at':=ah c1.1 (by show qB u (aD w.gc) (aD w.gr)≤_;omega);have q2:dE c.high.at':=ah c1.2.1 (by show qB u (aD w.gc) (aD w.gr)≤_;omega);refine ae.jk (fun st=>st=⟨157,[(0,.ptr 0 0 0),(1,iv j),(9,.ptr 7 0 0)],aC mx s0 w++[some ⟨16,[bS (gt w.aa j)],false⟩]⟩) ?_ ?_
 ·refine ae.go ?_;simp only[aC,aQ,aR];simp(disch:=omega)[hr,l1];repeat refine alR ?_
  exact Le.ct (by simp[ar,hC,aC,aQ,aR])
 rintro st rfl;refine ae.jk (fun st=>aH c.low c.high=false∧st=⟨157,[(0,.ptr 0 0 0),(1,iv j),(9,.ptr 7 0 0)],aC mx s0 (cD w j c)++[some ⟨16,[bS c],false⟩]⟩) ?_ ?_
 ·refine ae.xf (ae.mj (r5.go ?_));simp only[aC,aQ,aR];simp;by_cases hw:(gt w.aa j).whole=true
  ·rw[if_pos hw]at ec;have w0:=G.W.co j hr;have p1:dE (gt w.aa j).low.at':=ah w0.1 (by omega);have p2:dE (gt w.aa j).high.at':=ah w0.2.1 (by omega);have gT:=kJ (u:=u) (mx:=mx) (s0:=s0) G.S hj p1 p2 p1 p2;rw[ec]at gT;have hr1:j<(cD w j c).aa.length:=by rw[G1.S.nc];exact hj
   have lc:=cX hr1;rw[DN hr]at lc;clear ec e0 e1;generalize gt w.aa j=c0 at *;refine ae.jz true (by simp[hw]) (fun _=>?_) (fun q=>by cases q);refine ae.go ?_;refine ae.Bf (.d 4<|.d 5<|.qs [0,1,2]<|.q 3 [8]<|.b (.l 6 [8]<|.l 7 [9]<|.nil)) (by kernel_rfl) (by kernel_rfl) (by simp) ?_;simp;refine fy gT [0,1,2,3,4,5,6] (by simp) (by simp[aC,aQ,aR]) (by simp) (by simp[aC,hC]) (by simp) ?_;rintro T y ⟨rfl,rfl⟩;generalize cD w j c=w1 at *;simp only[aC,aQ,aR];simp(disch:=omega)[hr1,lc];repeat refine alR ?_
   by_cases h1:c.low.has=true
   ·by_cases h2:c.high.has=true
    ·simp(disch:=omega)[h1,h2];repeat refine alR ?_
     refine alT (tJ _ _ q1 q2) ?_;by_cases h3:c.high.at'<c.low.at'
     ·simp(disch:=omega)[h3];repeat refine alR ?_
      rw[if_pos (by simp[aH,h1,h2,h3])];exact⟨_,_,⟨rfl,rfl⟩,by simp,by simp[aC,aQ,aR,iS,eD],by simp[aC],.inr ⟨by simp,by simp[aC,j6,aQ,aR]⟩⟩
     ·simp(disch:=omega)[h3];repeat refine alR ?_
      exact⟨_,⟨by simp[aH,h1,h2,h3],rfl⟩,Le.ct (by simp[ar,hC,aC,aQ,aR])⟩
    ·simp(disch:=omega)[h1,h2];repeat refine alR ?_
     exact⟨_,⟨by simp[aH,h1,h2],rfl⟩,Le.ct (by simp[ar,hC,aC,aQ,aR])⟩
   ·simp(disch:=omega)[h1];repeat refine alR ?_
    exact⟨_,⟨by simp[aH,h1],rfl⟩,Le.ct (by simp[ar,hC,aC,aQ,aR])⟩
  ·rw[if_neg hw]at ec;have hnc':=hnc (by simpa using hw);rw[ec]at hnc' hw ⊢;rw[←ec,xQ hr,ec];refine ae.jz false (by simp[hw]) (fun q=>by cases q) (fun _=>?_);refine ae.go ?_;simp;exact⟨_,⟨hnc',rfl⟩,Le.ct (by simp[ar,hC])⟩
 rintro st ⟨hc,rfl⟩;rw[if_neg (by simp[hc])];have hcb:qw (qB u (aD (cD w j c).gc) (aD (cD w j c).gr)) (dt mx c).at':=EI (mx:=mx) (k:=qB u (aD w.gc) (aD w.gr)) (by omega) c1.1 c1.2.1;have gP:=gP _ hcb;refine ae.cutAt 2 (fun st=>st=⟨157,[(0,.ptr 0 0 0),(1,iv j),(9,.ptr 7 0 0),(12,iv (qj mx c.cost))],aC mx s0 (cD w j c)++[some ⟨16,[bS c],false⟩]⟩) ?_ ?_
 ·simp only[aG,aE,aC,aQ,aR];simp;refine alT (o7 c.cost) ?_;have sb:=N7 c.cost;rw[OK];cases mx with
  | true =>
   simp;simp(disch:=omega)[ar,hC,aC,aQ,aR,aP]
  | false =>
   simp;simp[ar,hC,aC,aQ,aR]
 rintro st rfl;simp only[ax,au];clear hcb;refine ae.cutAt 1 (fun st=>st=⟨157,[(0,.ptr 0 0 0),(1,iv j),(9,.ptr 7 0 0),(12,iv (qj mx c.cost)),(13,.ptr 8 0 0)],aC mx s0 (cD w j c)++[some ⟨16,[bS c],false⟩,some ⟨4,[zR],false⟩]⟩) ?_ ?_
 ·simp only[aG,aE,aC,aQ,aR];simp[ar,hC,zR];done
 rintro st rfl;simp only[ax,au];refine ae.le (Ct (fr':=[(0,.ptr 0 0 0),(1,iv j),(9,.ptr 7 0 0),(12,iv (qj mx c.cost)),(13,.ptr 8 0 0)]) (tl':=[some ⟨16,[bS c],false⟩,some ⟨4,[aY 0],false⟩]) (by simp[EO]) (by
  have e:iR zR=aY 0:=by rw[←EY];rfl
  simp[xd,aC,aQ,aR,iS,e,jQ,Ig]) rfl) ?_
 refine ae.cutAt 1 (fun st=>(dt mx c).has=true∧st=⟨157,[(0,.ptr 0 0 0),(1,iv j),(13,.ptr 8 0 0)],aC mx s0 (cD w j c)++[some ⟨16,[bS c],false⟩,some ⟨4,[aY (dt mx c).at'],false⟩]⟩) ?_ ?_
 ·simp only[aG,aE];clear gP;generalize cD w j c=w1 at *;simp only[aC,aQ,aR];by_cases s1:0<qj mx c.cost
  ·by_cases b1:c.low.has=true
   ·have hb:dt mx c=c.low:=by unfold Go.Ps.dt;simp[b1,show ¬qj mx c.cost<0 by omega,show ¬qj mx c.cost=0 by omega]
    simp(disch:=omega)[s1,b1];repeat refine alR ?_
    rw[hb];exact⟨_,⟨b1,rfl⟩,by simp[ar,hC,aC,aQ,aR]⟩
   ·have hb:dt mx c=c.low:=by unfold Go.Ps.dt;simp[b1,show ¬qj mx c.cost<0 by omega,show ¬qj mx c.cost=0 by omega]
    simp(disch:=omega)[s1,b1,show ¬qj mx c.cost<0 by omega,show ¬qj mx c.cost=0 by omega];repeat refine alR ?_
    rw[hb,if_neg b1];exact⟨_,_,⟨rfl,rfl⟩,by simp,by simp[aC,aQ,aR,iS],by simp[aC],.inr ⟨by simp,by simp[aC,j6,aQ,aR]⟩⟩
  ·by_cases s2:qj mx c.cost<0
   ·by_cases b1:c.high.has=true
    ·have hb:dt mx c=c.high:=by unfold Go.Ps.dt;simp[b1,s2,show ¬qj mx c.cost=0 by omega]
     simp(disch:=omega)[s1,s2,b1];repeat refine alR ?_
     rw[hb];exact⟨_,⟨b1,rfl⟩,by simp[ar,hC,aC,aQ,aR]⟩
    ·have hb:dt mx c=c.high:=by unfold Go.Ps.dt;simp[b1,s2,show ¬qj mx c.cost=0 by omega]
     simp(disch:=omega)[s1,s2,b1,show ¬qj mx c.cost=0 by omega];repeat refine alR ?_
     rw[hb,if_neg b1];exact⟨_,_,⟨rfl,rfl⟩,by simp,by simp[aC,aQ,aR,iS],by simp[aC],.inr ⟨by simp,by simp[aC,j6,aQ,aR]⟩⟩
   ·have s3:qj mx c.cost=0:=by omega
    by_cases b1:c.low.has=true
    ·have hb:dt mx c=c.low:=by unfold Go.Ps.dt;simp[b1,s3]
     simp(disch:=omega)[s3,b1];repeat refine alR ?_
     rw[hb];exact⟨_,⟨b1,rfl⟩,by simp[ar,hC,aC,aQ,aR]⟩
    ·by_cases b2:c.high.has=true
     ·have hb:dt mx c=c.high:=by unfold Go.Ps.dt;simp[b1,b2,s3]
      simp(disch:=omega)[s3,b1,b2];repeat refine alR ?_
      rw[hb];exact⟨_,⟨b2,rfl⟩,by simp[ar,hC,aC,aQ,aR]⟩
     ·have hb:dt mx c=⟨true,0⟩:=by unfold Go.Ps.dt;simp[b1,b2,s3]
      simp(disch:=omega)[s3,b1,b2];repeat refine alR ?_
      rw[hb];exact⟨_,⟨rfl,rfl⟩,by simp[ar,hC,aC,aQ,aR]⟩
 rintro st ⟨hb,rfl⟩;rw[if_pos hb];simp only[ax,au];refine ae.go ?_;generalize cD w j c=w1 at *;simp only[aC,aQ,aR];simp;refine zo Ab ?_;refine fy gP [0,1,2,3,4,5,6] (by simp) (by simp[aC,aQ,aR]) (by simp) (by simp[aC,hC]) (by simp) ?_;rintro T y ⟨rfl,rfl⟩;generalize k8 w1 j (dt mx c).at' []=w2;simp only[aC,aQ,aR];simp;exact⟨_,_,⟨rfl,rfl⟩,by simp,by simp[aC,aQ,aR,iS],by simp[aC],.inr ⟨by simp,by simp[aC,j6,aQ,aR]⟩⟩
end Go.Proofs

