/- A text of the prover's own. -/
import Derived.Test.YtmghjkkjaolpgaaGreatDoorUIq
open List renaming cons_append→amF,nil_append→api,map_set→anF
set_option maxRecDepth 10000
set_option maxHeartbeats 2000000
namespace Go.Ps
open Go Go.Sv Go.Pl Go.Proofs Go.Tb Go.Ut Go.Li
def o9(b:Bo)(a r:Rat):Bo:=⟨b.has,if b.has=true then(b.at' - a) / r else b.at'⟩
theorem zm(b:Bo)(a r:Rat):kG (o9 b a r) (bV ⟨true, -(a*(1 / r))⟩ b (1 / r)):=by
 unfold kG o9 bV;by_cases h:b.has=true
 ·simp[h,Rat.div_def];grind
 ·simp[h]
theorem Cu{c:df}{lo hi:Bo}{a r:Rat}(hr:r≠0):bg c (if r<0 then o9 hi a r else o9 lo a r) (if r<0 then o9 lo a r else o9 hi a r)=bg c (ck ⟨⟨true, -(a*(1 / r))⟩,⟨true, -(a*(1 / r))⟩⟩ lo hi (1 / r)).lo (ck ⟨⟨true, -(a*(1 / r))⟩,⟨true, -(a*(1 / r))⟩⟩ lo hi (1 / r)).hi:=by
 unfold ck;rw[if_neg (IU hr)];by_cases h:r<0
 ·rw[if_pos h,if_pos h,if_pos ((y9 hr).2 h)];exact ot (zm _ _ _) (zm _ _ _)
 ·rw[if_neg h,if_neg h,if_neg (fun e=>h ((y9 hr).1 e))];exact ot (zm _ _ _) (zm _ _ _)
theorem Cy{a b:Rat}(ha:a≠0)(hb:b≠0) : -(a / b)≠0:=by
 have h2:=Rat.mul_inv_cancel b hb;rw[Rat.div_def];intro e;have h3:a*b⁻¹=0:=by grind
 have:a=0:=by
  have:a*b⁻¹*b=0:=by rw[h3,Rat.zero_mul]
  grind
 exact ha this
def Fa(w:Wk)(i:Nat)(a b:Term):Wk:=fh (cD w a.aq.toNat (bg (gt w.aa a.aq.toNat)
 (if -(a.num / b.num)<0 then o9 (gt w.aa b.aq.toNat).high ((gt w.rows i).low.at' / b.num) (-(a.num / b.num)) else o9 (gt w.aa b.aq.toNat).low ((gt w.rows i).low.at' / b.num) (-(a.num / b.num)))
 (if -(a.num / b.num)<0 then o9 (gt w.aa b.aq.toNat).low ((gt w.rows i).low.at' / b.num) (-(a.num / b.num)) else o9 (gt w.aa b.aq.toNat).high ((gt w.rows i).low.at' / b.num) (-(a.num / b.num))))) i
theorem Np{w:Wk}{i:Nat}(h0:(gt (gt w.rows i).ab 0).num≠0)(h1:(gt (gt w.rows i).ab 1).num≠0):iB w i=(if(gt w.rows i).ab.length=2∧alike (gt w.rows i).low (gt w.rows i).high=true∧(gt w.aa (gt (gt w.rows i).ab 0).aq.toNat).whole=false∧(gt w.aa (gt (gt w.rows i).ab 1).aq.toNat).whole=false then
  (true,k8 (Fa w i (gt (gt w.rows i).ab 0) (gt (gt w.rows i).ab 1)) (gt (gt w.rows i).ab 1).aq.toNat ((gt w.rows i).low.at' / (gt (gt w.rows i).ab 1).num) [⟨(gt (gt w.rows i).ab 0).aq, -((gt (gt w.rows i).ab 0).num / (gt (gt w.rows i).ab 1).num)⟩]) else(false,w)):=by
 unfold iB Fa;rw[Cu (Cy h0 h1)]
theorem J0{w:Wk}{i:Nat}(h:¬((gt w.rows i).ab.length=2∧alike (gt w.rows i).low (gt w.rows i).high=true∧(gt w.aa (gt (gt w.rows i).ab 0).aq.toNat).whole=false∧(gt w.aa (gt (gt w.rows i).ab 1).aq.toNat).whole=false)):iB w i=(false,w):=by
 unfold iB;exact if_neg h
end Go.Ps
namespace Go.Proofs
open Go.Sv Go Go.Tb Go.Pl Go.Ut Go.Li Go.Ps
theorem yi(b:Bo)(a r:Rat)(hb:dE b.at')(ha:dE a)(hr:dE r)(hs:dE (b.at' - a)):aI Tryz.prog 102 [cL b,.bU (aY a) 0,.bU (aY r) 0] (cL (o9 b a r)):=by
 refine aj Tryz.func102 rfl (by simp) (fun C hC=>?_);simp;refine⟨fun h=>?_,fun h=>?_⟩
 ·refine ae.draw (.qs [0,1,2,4]<|.l 3 []<|.l 5 []<|.qs [6,7,8,9]<|.l 10 [0]<|.nil) (by kernel_rfl) (by kernel_rfl) (by simp) ?_;simp;refine alT (yA b.at' a hb ha) ?_;simp;refine alT (uG (b.at' - a) r hs hr) ?_;simp;rw[show SV.agg (List.take 1 (cL b).cells++((aY ((b.at' - a) / r)).cells++List.drop 5 (cL b).cells))=cL (o9 b a r) by unfold o9;rw[if_pos h];rfl];exact eh _ _ rfl
 ·rw[show o9 b a r=b by unfold o9;rw[if_neg (by simp[h])]];exact eh _ _ rfl
theorem HQ{n m u:Nat}{w:Wk}{mx:Bool}{s0:Rat}(G:aW n m u w)(hu8:8≤u)(hu:u≤2400)(h7:n≤7)(h7':m≤7){i:Nat}(hi:i<m) :
  mw Tryz.prog 66 [.ptr 0 0 0,iv i] (aC mx s0 w) [6] (Mq mx s0 (iB w i)):=by
 have hr:i<w.rows.length:=by rw[G.S.nr];exact hi
 have hr':i<w.gr.length:=by rw[G.S.gr];exact hi
 have l1:=dX hr;have l2:=dO hr';obtain⟨gc7,gr7⟩:=fm G;have pA:=pO hu8 (aD w.gc);have pB:=l4 hu8 (aD w.gc) (aD w.gr);have tA:=vg hu (c:=aD w.gc) (by omega);have tB:=na hu (c:=aD w.gc) (r:=aD w.gr) (by omega) (by omega);have wr:=G.W.ro i hr;have q1:dE (gt w.rows i).low.at':=ah wr.1 (by omega);have q2:dE (gt w.rows i).high.at':=ah wr.2 (by omega);have pn:=@J0 w i;refine dK Tryz.func66 rfl (by simp) (fun C hC=>?_);have hC:C.fx=[0,1,2,3,4,5]:=hC;refine ae.cutAt 3 (fun st=>((gt w.rows i).ab.length=2∧alike (gt w.rows i).low (gt w.rows i).high=true)∧st=⟨144,[(0,.ptr 0 0 0),(1,iv i),(5,.ptr 7 0 0)],aC mx s0 w++[some ⟨12,[bE (gt w.rows i)],false⟩]⟩) ?_ ?_
 ·generalize gt w.rows i=r at *;simp only[aG,aE,aC,aQ,aR];by_cases hl:r.ab.length=2
  ·have hl':(r.ab.length:Int)=2:=by omega
   by_cases h1:r.low.has=true
   ·by_cases h2:r.high.has=true
    ·by_cases h3:r.low.at'=r.high.at'
     ·simp(disch:=omega)[hr,l1,hl,hl',h1,h2];repeat refine alR ?_
      refine alT (tJ _ _ q1 q2) ?_;simp(disch:=omega)[h3];repeat refine alR ?_
      simp[ar,hC,alike,h1,h2,h3];done
     ·simp(disch:=omega)[hr,l1,hl,hl',h1,h2];repeat refine alR ?_
      refine alT (tJ _ _ q1 q2) ?_;simp(disch:=omega)[h3];repeat refine alR ?_
      rw[pn (by simp[alike,h3])];exact⟨_,_,⟨rfl,rfl⟩,by simp,by simp[aC,aQ,aR,iS],by simp[aC],.inr ⟨by simp,by simp[aC,j6,aQ,aR]⟩⟩
    ·simp(disch:=omega)[hr,l1,hl,hl',h1,h2];repeat refine alR ?_
     rw[pn (by simp[alike,h2])];exact⟨_,_,⟨rfl,rfl⟩,by simp,by simp[aC,aQ,aR,iS],by simp[aC],.inr ⟨by simp,by simp[aC,j6,aQ,aR]⟩⟩
   ·simp(disch:=omega)[hr,l1,hl,hl',h1];repeat refine alR ?_
    rw[pn (by simp[alike,h1])];exact⟨_,_,⟨rfl,rfl⟩,by simp,by simp[aC,aQ,aR,iS],by simp[aC],.inr ⟨by simp,by simp[aC,j6,aQ,aR]⟩⟩
  ·have hl':¬(r.ab.length:Int)=2:=by omega
   simp(disch:=omega)[hr,l1,hl,hl'];repeat refine alR ?_
   rw[pn (by simp[hl])];exact⟨_,_,⟨rfl,rfl⟩,by simp,by simp[aC,aQ,aR,iS],by simp[aC],.inr ⟨by simp,by simp[aC,j6,aQ,aR]⟩⟩
 rintro st ⟨⟨hl,ha⟩,rfl⟩;simp only[ax,au];obtain⟨a0,a1,a2⟩:=fE G hi (k:=0) (by omega);obtain⟨b0,b1,b2⟩:=fE G hi (k:=1) (by omega);have hab:=(cW (G.S.te i hi) 1 (by omega)).2.2.2 0 (by omega);have wa:=G.W.te i hr 0 (by omega);have wb:=G.W.te i hr 1 (by omega);have la:=eu (l:=(gt w.rows i).ab) (i:=0) (by omega);have lb:=eu (l:=(gt w.rows i).ab) (i:=1) (by omega);have e0:=Np a2 b2;rw[hl,ha]at e0;simp only[true_and]at e0;have S1:=w6 (pq G.S (gt (gt w.rows i).ab 0).aq.toNat (bg (gt w.aa (gt (gt w.rows i).ab 0).aq.toNat)
  (if -((gt (gt w.rows i).ab 0).num / (gt (gt w.rows i).ab 1).num)<0 then o9 (gt w.aa (gt (gt w.rows i).ab 1).aq.toNat).high ((gt w.rows i).low.at' / (gt (gt w.rows i).ab 1).num) (-((gt (gt w.rows i).ab 0).num / (gt (gt w.rows i).ab 1).num)) else o9 (gt w.aa (gt (gt w.rows i).ab 1).aq.toNat).low ((gt w.rows i).low.at' / (gt (gt w.rows i).ab 1).num) (-((gt (gt w.rows i).ab 0).num / (gt (gt w.rows i).ab 1).num)))
  (if -((gt (gt w.rows i).ab 0).num / (gt (gt w.rows i).ab 1).num)<0 then o9 (gt w.aa (gt (gt w.rows i).ab 1).aq.toNat).low ((gt w.rows i).low.at' / (gt (gt w.rows i).ab 1).num) (-((gt (gt w.rows i).ab 0).num / (gt (gt w.rows i).ab 1).num)) else o9 (gt w.aa (gt (gt w.rows i).ab 1).aq.toNat).high ((gt w.rows i).low.at' / (gt (gt w.rows i).ab 1).num) (-((gt (gt w.rows i).ab 0).num / (gt (gt w.rows i).ab 1).num))))) i
 generalize gt (gt w.rows i).ab 0=a at *;generalize gt (gt w.rows i).ab 1=b at *;have hjx:a.aq.toNat<w.aa.length:=by rw[G.S.nc];exact a1
 have hjy:b.aq.toNat<w.aa.length:=by rw[G.S.nc];exact b1
 have wx:=G.W.co _ hjx;have wy:=G.W.co _ hjy;have lx:=cX hjx;have ly:=cX hjy;have w1:qw (qB u (aD w.gc) (aD w.gr)+qA u (aD w.gc)) ((gt w.rows i).low.at' / b.num):=lj wr.1 wb (by omega);have w2:qw (2*qA u (aD w.gc)) (-(a.num / b.num)):=ah (lq (lj wa wb (by omega))) (by omega);have hW:Fo (Fa w i a b) ((gt w.rows i).low.at' / b.num) [⟨a.aq, -(a.num / b.num)⟩] (qA u (aD w.gc)) (qB u (aD w.gc) (aD w.gr)):=by
  refine⟨by omega,by omega,by omega,G.W.te,G.W.ro,fun j hj=>?_,G.W.sh,w1,fun k hk=>?_⟩
  ·have hj:j<w.aa.length:=by simpa[Fa,fh,cD]using hj
   show qw _ (gt (w.aa.set _ _) j).cost;rw[dM hj];split
   ·rename_i e;subst e;exact wx.2.2
   ·exact(G.W.co j hj).2.2
  ·have:k=0:=by simpa using hk
   subst this;exact w2
 have gP:=y8 (mx:=mx) (s0:=s0) (w:=Fa w i a b) S1 h7 h7' b1 (a:=(gt w.rows i).low.at' / b.num) (ts:=[⟨a.aq, -(a.num / b.num)⟩]) (by simp) (fun k hk=>by
  have:k=0:=by simpa using hk
  subst this;exact⟨a0,a1,by show a.aq.toNat≠b.aq.toNat;omega⟩) hW
 have qx1:dE (gt w.aa a.aq.toNat).low.at':=ah wx.1 (by omega);have qx2:dE (gt w.aa a.aq.toNat).high.at':=ah wx.2.1 (by omega);have qy1:dE (gt w.aa b.aq.toNat).low.at':=ah wy.1 (by omega);have qy2:dE (gt w.aa b.aq.toNat).high.at':=ah wy.2.1 (by omega);have qto:dE ((gt w.rows i).low.at' / b.num):=ah w1 (by omega);have qby:dE (-(a.num / b.num)):=ah w2 (by omega);have qab:dE (a.num / b.num):=ah (lj wa wb (by omega)) (by omega);have qa:dE a.num:=ah wa (by omega);have qb:dE b.num:=ah wb (by omega);have qs1:dE ((gt w.aa b.aq.toNat).low.at' - (gt w.rows i).low.at' / b.num):=ah (z3 wy.1 w1) (by omega);have qs2:dE ((gt w.aa b.aq.toNat).high.at' - (gt w.rows i).low.at' / b.num):=ah (z3 wy.2.1 w1) (by omega);have gM:=fun(lo hi:Bo) (ql:dE lo.at') (qh:dE hi.at')=>kJ (u:=u) (mx:=mx) (s0:=s0) G.S a1 ql qh qx1 qx2;have em:Fa w i a b=fh (cD w a.aq.toNat (bg (gt w.aa a.aq.toNat)
  (if -(a.num / b.num)<0 then o9 (gt w.aa b.aq.toNat).high ((gt w.rows i).low.at' / b.num) (-(a.num / b.num)) else o9 (gt w.aa b.aq.toNat).low ((gt w.rows i).low.at' / b.num) (-(a.num / b.num)))
  (if -(a.num / b.num)<0 then o9 (gt w.aa b.aq.toNat).low ((gt w.rows i).low.at' / b.num) (-(a.num / b.num)) else o9 (gt w.aa b.aq.toNat).high ((gt w.rows i).low.at' / b.num) (-(a.num / b.num))))) i:=rfl
 rw[em]at e0 gP;clear S1 hW em;have qmv:∀(x:Bo),dE x.at'→dE (x.at' - (gt w.rows i).low.at' / b.num)→qw (qB u (aD w.gc) (aD w.gr)+(qB u (aD w.gc) (aD w.gr)+qA u (aD w.gc))+1+2*qA u (aD w.gc)) ((x.at' - (gt w.rows i).low.at' / b.num) / -(a.num / b.num))→dE (o9 x ((gt w.rows i).low.at' / b.num) (-(a.num / b.num))).at':=fun x h1 h2 h3=>by
  unfold o9;show dE (if x.has=true then(x.at' - (gt w.rows i).low.at' / b.num) / -(a.num / b.num) else x.at');split
  ·exact ah h3 (by omega)
  ·exact h1
 have qm1:=qmv _ qy1 qs1 (lj (z3 wy.1 w1) w2 (by omega));have qm2:=qmv _ qy2 qs2 (lj (z3 wy.2.1 w1) w2 (by omega));clear qmv;refine ae.cutAt 3 (fun st=>((gt w.aa a.aq.toNat).whole=false∧(gt w.aa b.aq.toNat).whole=false)∧st=⟨144,[(0,.ptr 0 0 0),(1,iv i),(5,.ptr 7 0 0),(6,.ptr 8 0 0),(7,.ptr 9 0 0),(9,.ptr 11 0 0)],aC mx s0 w++[some ⟨12,[bE (gt w.rows i)],false⟩,some ⟨5,[aT a],false⟩,some ⟨5,[aT b],false⟩,some ⟨16,[bS (gt w.aa a.aq.toNat)],false⟩,some ⟨16,[bS (gt w.aa b.aq.toNat)],false⟩]⟩) ?_ ?_
 ·clear gM gP;obtain⟨ja,eja⟩:∃ja:Nat,a.aq=ja:=⟨a.aq.toNat,by omega⟩;obtain⟨jb,ejb⟩:∃jb:Nat,b.aq=jb:=⟨b.aq.toNat,by omega⟩;rw[eja]at hjx lx e0 ⊢;rw[ejb]at hjy ly e0 ⊢;simp only[Int.toNat_natCast]at hjx lx hjy ly e0 ⊢;generalize gt w.rows i=r at *;generalize gt w.aa ja=x at *;generalize gt w.aa jb=y at *;simp only[aG,aE,aC,aQ,aR];simp;refine ae.Bf (.d 8<|.d 9<|.qs [0,1,2,3,4]<|.q 5 [8]<|.qs [6]<|.q 7 [8]<|.b (.l 10 [8]<|.l 11 [9]<|.nil)) (by kernel_rfl) (by kernel_rfl) (by simp) ?_;simp(disch:=omega)[hl,la,lb];repeat refine alR ?_
  refine ae.Bf (.d 22<|.d 23<|.qs [0,1,2,3,4,5,6,7,8,9,10,11,12,13]<|.q 14 [10]<|.qs [15,16]<|.q 17 [10]<|.qs [18]<|.q 19 [10]<|.qs [20]<|.q 21 [10]<|.b (.l 24 [10]<|.l 25 [11]<|.nil)) (by kernel_rfl) (by kernel_rfl) (by simp) ?_;by_cases h1:x.whole=true
  ·simp(disch:=omega)[eja,ejb,hjx,hjy,lx,ly,h1];repeat refine alR ?_
   rw[e0,if_neg (by simp[h1])];exact⟨_,_,⟨rfl,rfl⟩,by simp,by simp[aC,aQ,aR,iS],by simp[aC],.inr ⟨by simp,by simp[aC,j6,aQ,aR]⟩⟩
  ·by_cases h2:y.whole=true
   ·simp(disch:=omega)[eja,ejb,hjx,hjy,lx,ly,h1,h2];repeat refine alR ?_
    rw[e0,if_neg (by simp[h2])];exact⟨_,_,⟨rfl,rfl⟩,by simp,by simp[aC,aQ,aR,iS],by simp[aC],.inr ⟨by simp,by simp[aC,j6,aQ,aR]⟩⟩
   ·simp(disch:=omega)[eja,ejb,hjx,hjy,lx,ly,h1,h2];repeat refine alR ?_
    simp[ar,hC,aC,aQ,aR]
 rintro st ⟨⟨hw1,hw2⟩,rfl⟩;simp only[ax,au];rw[if_pos ⟨hw1,hw2⟩]at e0;have sel:∀(p:Prop) [Decidable p] (x y:Bo),cL (if p then x else y)=if p then cL x else cL y:=fun p _ x y=>by split<;>rfl
 simp only[aC,aQ,aR,amF,api];refine ae.kE 11 rfl (by simp) ?_;simp[fg,aN];refine ae.kE 9 rfl (by simp) ?_;simp[fg,aN];refine ae.kE 8 rfl (by simp) ?_;simp[fg,aN];refine ae.kE 7 rfl (by simp) ?_;simp[fg,aN];refine ae.le (Le.ct (by simp[ar,hC,aC,aQ,aR,Go.Sv.get]:ar C _ ⟨144,[(0,.ptr 0 0 0),(1,iv i),(5,.bU (bE (gt w.rows i)) 0),(6,.bU (aT a) 0),(7,.bU (aT b) 0),(9,.bU (bS (gt w.aa b.aq.toNat)) 0)],aC mx s0 w⟩)) ?_;refine ae.cutAt 3 (fun st=>st=⟨144,[(0,.ptr 0 0 0),(1,iv i),(6,.bU (aT a) 0),(7,.bU (aT b) 0),(9,.bU (bS (gt w.aa b.aq.toNat)) 0),(10,.ptr 7 0 0),(12,.ptr 8 0 0)],aC mx s0 w++[some ⟨4,[aY ((gt w.rows i).low.at' / b.num)],false⟩,some ⟨4,[aY (-(a.num / b.num))],false⟩]⟩) ?_ ?_
 ·clear gM gP e0;generalize gt w.rows i=r at *;simp only[aG,aE,aC,aQ,aR];simp;refine alT (uG r.low.at' b.num q1 qb) ?_;simp;refine alT (uG a.num b.num qa qb) ?_;simp;refine alT (yU (a.num / b.num)) ?_;simp[ar,hC,aC,aQ,aR];done
 rintro st rfl;simp only[ax,au];generalize -(a.num / b.num)=e9 at *;generalize (gt w.rows i).low.at' / b.num=to at *;simp only[aC,aQ,aR,amF,api];refine ae.kE 8 rfl (by simp) ?_;simp[fg,aN];refine ae.kE 7 rfl (by simp) ?_;simp[fg,aN];refine ae.le (Le.ct (by simp[ar,hC,aC,aQ,aR,Go.Sv.get]:ar C _ ⟨144,[(0,.ptr 0 0 0),(1,iv i),(6,.bU (aT a) 0),(7,.bU (aT b) 0),(9,.bU (bS (gt w.aa b.aq.toNat)) 0),(10,.bU (aY to) 0),(12,.bU (aY e9) 0)],aC mx s0 w⟩)) ?_;refine ae.cutAt 3 (fun st=>st=⟨144,[(0,.ptr 0 0 0),(1,iv i),(6,.bU (aT a) 0),(7,.bU (aT b) 0),(10,.bU (aY to) 0),(12,.bU (aY e9) 0),(15,.ptr 7 0 0),(16,.ptr 8 0 0)],aC mx s0 w++[some ⟨5,[cL (if e9<0 then o9 (gt w.aa b.aq.toNat).high to e9 else o9 (gt w.aa b.aq.toNat).low to e9)],false⟩,some ⟨5,[cL (if e9<0 then o9 (gt w.aa b.aq.toNat).low to e9 else o9 (gt w.aa b.aq.toNat).high to e9)],false⟩]⟩) ?_ ?_
 ·clear gM gP e0;generalize gt w.aa b.aq.toNat=y at *;simp only[aG,aE,aC,aQ,aR];simp;refine ae.Bf (.d 8<|.d 9<|.qs [0,1,2,4,5,6]<|.p 3<|.p 7<|.b (.l 10 [7]<|.l 11 [8]<|.nil)) (by kernel_rfl) (by kernel_rfl) (by simp) ?_;simp;refine mS (yi y.low to e9 qy1 qto qby qs1) (by simp) ?_;simp;refine mS (yi y.high to e9 qy2 qto qby qs2) (by simp) ?_;simp;refine alT (o7 e9) ?_;by_cases hs:e9<0
  ·simp[hs];simp[ar,hC,aC,aQ,aR];done
  ·simp[hs];simp[ar,hC,aC,aQ,aR];done
 rintro st rfl;simp only[ax,au];obtain⟨lo,elo⟩:∃lo,(if e9<0 then o9 (gt w.aa b.aq.toNat).high to e9 else o9 (gt w.aa b.aq.toNat).low to e9)=lo:=⟨_,rfl⟩;obtain⟨hi',ehi⟩:∃hi',(if e9<0 then o9 (gt w.aa b.aq.toNat).low to e9 else o9 (gt w.aa b.aq.toNat).high to e9)=hi':=⟨_,rfl⟩;have ql:dE lo.at':=by rw[←elo];split<;>assumption
 have qh:dE hi'.at':=by rw[←ehi];split<;>assumption
 rw[elo,ehi];rw[elo,ehi]at gP e0;have gM:=gM lo hi' ql qh;clear elo ehi qm1 qm2 ql qh;obtain⟨ja,eja⟩:∃ja:Nat,a.aq=ja:=⟨a.aq.toNat,by omega⟩;obtain⟨jb,ejb⟩:∃jb:Nat,b.aq=jb:=⟨b.aq.toNat,by omega⟩;have eja':a.aq.toNat=ja:=by omega
 have ejb':b.aq.toNat=jb:=by omega
 rw[eja']at gP gM e0;rw[ejb']at gP e0;refine ae.cutAt 2 (fun st=>st=⟨144,[(0,.ptr 0 0 0),(1,iv i),(6,.bU (aT a) 0),(7,.bU (aT b) 0),(10,.bU (aY to) 0),(12,.bU (aY e9) 0)],aC mx s0 (fh (cD w ja (bg (gt w.aa ja) lo hi')) i)⟩) ?_ ?_
 ·clear gP e0;simp only[aG,aE,aC,aQ,aR];simp[eja];refine fy gM [0,1,2,3,4,5,6] (by simp) (by simp[aC,aQ,aR]) (by simp) (by simp[aC,hC]) (by simp) ?_;rintro T y ⟨rfl,rfl⟩;simp only[aC,aQ,aR,cD,fh];simp(disch:=omega)[hr',l2,mB, -anF];repeat refine alR ?_
  simp[ar,hC,iS, -anF];done
 rintro st rfl;simp only[ax,au];rw[e0];generalize fh (cD w ja (bg (gt w.aa ja) lo hi')) i=w3 at *;refine ae.go ?_;simp only[aC,aQ,aR];simp[ejb];refine Nz 7 rfl (by simp) ?_;simp;rw[show List.map aT [⟨a.aq,e9⟩]=[SV.agg (SV.val (Value.int IntKind.i64 a.aq)::(aY e9).cells)] from rfl]at gP;refine fy gP [0,1,2,3,4,5,6] (by simp) (by simp[aC,aQ,aR]) (by simp) (by simp[aC,hC]) (by simp) ?_;rintro T y ⟨rfl,rfl⟩;generalize k8 w3 jb to [⟨a.aq,e9⟩]=w4;simp only[aC,aQ,aR];simp;exact⟨_,_,⟨rfl,rfl⟩,by simp,by simp[aC,aQ,aR,iS],by simp[aC],.inr ⟨by simp,by simp[aC,j6,aQ,aR]⟩⟩
end Go.Proofs

