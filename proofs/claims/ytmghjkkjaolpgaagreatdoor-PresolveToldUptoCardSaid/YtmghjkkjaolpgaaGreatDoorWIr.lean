/- A text of the prover's own. -/
import Derived.Test.YtmghjkkjaolpgaaGreatDoorWIq
open List renaming cons_append→aly,nil_append→anu,map_set→amw
set_option maxRecDepth 10000
set_option maxHeartbeats 2000000
namespace Go.Ps
open Go Go.Sv Go.Pl Go.Proofs Go.Tb Go.Ut Go.Li
def pb(b:Bo)(a r:Rat):Bo:=⟨b.has,if b.has=true then(b.at' - a) / r else b.at'⟩
theorem zp(b:Bo)(a r:Rat):kU (pb b a r) (cD ⟨true, -(a*(1 / r))⟩ b (1 / r)):=by
 unfold kU pb cD;by_cases h:b.has=true
 ·simp[h,Rat.div_def];grind
 ·simp[h]
theorem BG{c:dL}{lo hi:Bo}{a r:Rat}(hr:r≠0):cA c (if r<0 then pb hi a r else pb lo a r) (if r<0 then pb lo a r else pb hi a r)=cA c (dA ⟨⟨true, -(a*(1 / r))⟩,⟨true, -(a*(1 / r))⟩⟩ lo hi (1 / r)).lo (dA ⟨⟨true, -(a*(1 / r))⟩,⟨true, -(a*(1 / r))⟩⟩ lo hi (1 / r)).hi:=by
 unfold dA;rw[if_neg (Ik hr)];by_cases h:r<0
 ·rw[if_pos h,if_pos h,if_pos ((yg hr).2 h)];exact oZ (zp _ _ _) (zp _ _ _)
 ·rw[if_neg h,if_neg h,if_neg (fun e=>h ((yg hr).1 e))];exact oZ (zp _ _ _) (zp _ _ _)
theorem CC{a b:Rat}(ha:a≠0)(hb:b≠0) : -(a / b)≠0:=by
 have h2:=Rat.mul_inv_cancel b hb;rw[Rat.div_def];intro e;have h3:a*b⁻¹=0:=by grind
 have:a=0:=by
  have:a*b⁻¹*b=0:=by rw[h3,Rat.zero_mul]
  grind
 exact ha this
def Ff(w:Wk)(i:Nat)(a b:Term):Wk:=dw (bN w a.aI.toNat (cA (gt w.ae a.aI.toNat)
 (if -(a.num / b.num)<0 then pb (gt w.ae b.aI.toNat).high ((gt w.rows i).low.at' / b.num) (-(a.num / b.num)) else pb (gt w.ae b.aI.toNat).low ((gt w.rows i).low.at' / b.num) (-(a.num / b.num)))
 (if -(a.num / b.num)<0 then pb (gt w.ae b.aI.toNat).low ((gt w.rows i).low.at' / b.num) (-(a.num / b.num)) else pb (gt w.ae b.aI.toNat).high ((gt w.rows i).low.at' / b.num) (-(a.num / b.num))))) i
theorem L6{w:Wk}{i:Nat}(h0:(gt (gt w.rows i).ab 0).num≠0)(h1:(gt (gt w.rows i).ab 1).num≠0):iB w i=(if(gt w.rows i).ab.length=2∧alike (gt w.rows i).low (gt w.rows i).high=true∧(gt w.ae (gt (gt w.rows i).ab 0).aI.toNat).whole=false∧(gt w.ae (gt (gt w.rows i).ab 1).aI.toNat).whole=false then
  (true,jX (Ff w i (gt (gt w.rows i).ab 0) (gt (gt w.rows i).ab 1)) (gt (gt w.rows i).ab 1).aI.toNat ((gt w.rows i).low.at' / (gt (gt w.rows i).ab 1).num) [⟨(gt (gt w.rows i).ab 0).aI, -((gt (gt w.rows i).ab 0).num / (gt (gt w.rows i).ab 1).num)⟩]) else(false,w)):=by
 unfold iB Ff;rw[BG (CC h0 h1)]
theorem Di{w:Wk}{i:Nat}(h:¬((gt w.rows i).ab.length=2∧alike (gt w.rows i).low (gt w.rows i).high=true∧(gt w.ae (gt (gt w.rows i).ab 0).aI.toNat).whole=false∧(gt w.ae (gt (gt w.rows i).ab 1).aI.toNat).whole=false)):iB w i=(false,w):=by
 unfold iB;exact if_neg h
end Go.Ps
namespace Go.Proofs
open Go.Sv Go Go.Tb Go.Pl Go.Ut Go.Li Go.Ps
theorem xu(b:Bo)(a r:Rat)(hb:bQ b.at')(ha:bQ a)(hr:bQ r)(hs:bQ (b.at' - a)):aF Tryz.prog 102 [cL b,.bK (bs a) 0,.bK (bs r) 0] (cL (pb b a r)):=by
 refine aj Tryz.func102 rfl (by simp) (fun C hC=>?_);simp;refine⟨fun h=>?_,fun h=>?_⟩
 ·refine aa.draw (.qs [0,1,2,4]<|.l 3 []<|.l 5 []<|.qs [6,7,8,9]<|.l 10 [0]<|.nil) (by kernel_rfl) (by kernel_rfl) (by simp) ?_;simp;refine akK (zt b.at' a hb ha) ?_;simp;refine akK (tR (b.at' - a) r hs hr) ?_;simp;rw[show SV.agg (List.take 1 (cL b).cells++((bs ((b.at' - a) / r)).cells++List.drop 5 (cL b).cells))=cL (pb b a r) by unfold pb;rw[if_pos h];rfl];exact cW _ _ rfl
 ·rw[show pb b a r=b by unfold pb;rw[if_neg (by simp[h])]];exact cW _ _ rfl
theorem Hf{n m u:Nat}{w:Wk}{mx:Bool}{s0:Rat}(G:bh n m u w)(hu8:8≤u)(hu:u≤2400)(h7:n≤7)(h7':m≤7){i:Nat}(hi:i<m) :
  ji Tryz.prog 66 [.ptr 0 0 0,iv i] (aG mx s0 w) [6] (LD mx s0 (iB w i)):=by
 have hr:i<w.rows.length:=by rw[G.S.nr];exact hi
 have hr':i<w.gr.length:=by rw[G.S.gr];exact hi
 have l1:=dU hr;have l2:=bI hr';obtain⟨gc7,gr7⟩:=dr G;have pA:=lD hu8 (ay w.gc);have pB:=iY hu8 (ay w.gc) (ay w.gr);have tA:=mh hu (c:=ay w.gc) (by omega);have tB:=iL hu (c:=ay w.gc) (r:=ay w.gr) (by omega) (by omega);have wr:=G.W.ro i hr;have q1:bQ (gt w.rows i).low.at':=ah wr.1 (by omega);have q2:bQ (gt w.rows i).high.at':=ah wr.2 (by omega);have pn:=@Di w i;refine bP Tryz.func66 rfl (by simp) (fun C hC=>?_);have hC:C.fx=[0,1,2,3,4,5]:=hC;refine aa.cutAt 3 (fun st=>((gt w.rows i).ab.length=2∧alike (gt w.rows i).low (gt w.rows i).high=true)∧st=⟨144,[(0,.ptr 0 0 0),(1,iv i),(5,.ptr 7 0 0)],aG mx s0 w++[some ⟨12,[bE (gt w.rows i)],false⟩]⟩) ?_ ?_
 ·generalize gt w.rows i=r at *;simp only[ar,aq,aG,aS,aR];by_cases hl:r.ab.length=2
  ·have hl':(r.ab.length:Int)=2:=by omega
   by_cases h1:r.low.has=true
   ·by_cases h2:r.high.has=true
    ·by_cases h3:r.low.at'=r.high.at'
     ·simp(disch:=omega)[hr,l1,hl,hl',h1,h2];repeat refine akI ?_
      refine akK (tx _ _ q1 q2) ?_;simp(disch:=omega)[h3];repeat refine akI ?_
      simp[aw,hC,alike,h1,h2,h3];done
     ·simp(disch:=omega)[hr,l1,hl,hl',h1,h2];repeat refine akI ?_
      refine akK (tx _ _ q1 q2) ?_;simp(disch:=omega)[h3];repeat refine akI ?_
      rw[pn (by simp[alike,h3])];exact⟨_,_,⟨rfl,rfl⟩,by simp,by simp[aG,aS,aR,dX],by simp[aG],.inr ⟨by simp,by simp[aG,eP,aS,aR]⟩⟩
    ·simp(disch:=omega)[hr,l1,hl,hl',h1,h2];repeat refine akI ?_
     rw[pn (by simp[alike,h2])];exact⟨_,_,⟨rfl,rfl⟩,by simp,by simp[aG,aS,aR,dX],by simp[aG],.inr ⟨by simp,by simp[aG,eP,aS,aR]⟩⟩
   ·simp(disch:=omega)[hr,l1,hl,hl',h1];repeat refine akI ?_
    rw[pn (by simp[alike,h1])];exact⟨_,_,⟨rfl,rfl⟩,by simp,by simp[aG,aS,aR,dX],by simp[aG],.inr ⟨by simp,by simp[aG,eP,aS,aR]⟩⟩
  ·have hl':¬(r.ab.length:Int)=2:=by omega
   simp(disch:=omega)[hr,l1,hl,hl'];repeat refine akI ?_
   rw[pn (by simp[hl])];exact⟨_,_,⟨rfl,rfl⟩,by simp,by simp[aG,aS,aR,dX],by simp[aG],.inr ⟨by simp,by simp[aG,eP,aS,aR]⟩⟩
 rintro st ⟨⟨hl,ha⟩,rfl⟩;simp only[ao,al];obtain⟨a0,a1,a2⟩:=eF G hi (k:=0) (by omega);obtain⟨b0,b1,b2⟩:=eF G hi (k:=1) (by omega);have hab:=(gw (G.S.te i hi) 1 (by omega)).2.2.2 0 (by omega);have wa:=G.W.te i hr 0 (by omega);have wb:=G.W.te i hr 1 (by omega);have la:=dZ (l:=(gt w.rows i).ab) (i:=0) (by omega);have lb:=dZ (l:=(gt w.rows i).ab) (i:=1) (by omega);have e0:=L6 a2 b2;rw[hl,ha]at e0;simp only[true_and]at e0;have S1:=we (sI G.S (gt (gt w.rows i).ab 0).aI.toNat (cA (gt w.ae (gt (gt w.rows i).ab 0).aI.toNat)
  (if -((gt (gt w.rows i).ab 0).num / (gt (gt w.rows i).ab 1).num)<0 then pb (gt w.ae (gt (gt w.rows i).ab 1).aI.toNat).high ((gt w.rows i).low.at' / (gt (gt w.rows i).ab 1).num) (-((gt (gt w.rows i).ab 0).num / (gt (gt w.rows i).ab 1).num)) else pb (gt w.ae (gt (gt w.rows i).ab 1).aI.toNat).low ((gt w.rows i).low.at' / (gt (gt w.rows i).ab 1).num) (-((gt (gt w.rows i).ab 0).num / (gt (gt w.rows i).ab 1).num)))
  (if -((gt (gt w.rows i).ab 0).num / (gt (gt w.rows i).ab 1).num)<0 then pb (gt w.ae (gt (gt w.rows i).ab 1).aI.toNat).low ((gt w.rows i).low.at' / (gt (gt w.rows i).ab 1).num) (-((gt (gt w.rows i).ab 0).num / (gt (gt w.rows i).ab 1).num)) else pb (gt w.ae (gt (gt w.rows i).ab 1).aI.toNat).high ((gt w.rows i).low.at' / (gt (gt w.rows i).ab 1).num) (-((gt (gt w.rows i).ab 0).num / (gt (gt w.rows i).ab 1).num))))) i
 generalize gt (gt w.rows i).ab 0=a at *;generalize gt (gt w.rows i).ab 1=b at *;have hjx:a.aI.toNat<w.ae.length:=by rw[G.S.nc];exact a1
 have hjy:b.aI.toNat<w.ae.length:=by rw[G.S.nc];exact b1
 have wx:=G.W.co _ hjx;have wy:=G.W.co _ hjy;have lx:=cZ hjx;have ly:=cZ hjy;have w1:qw (qB u (ay w.gc) (ay w.gr)+qA u (ay w.gc)) ((gt w.rows i).low.at' / b.num):=iI wr.1 wb (by omega);have w2:qw (2*qA u (ay w.gc)) (-(a.num / b.num)):=ah (iX (iI wa wb (by omega))) (by omega);have hW:w5 (Ff w i a b) ((gt w.rows i).low.at' / b.num) [⟨a.aI, -(a.num / b.num)⟩] (qA u (ay w.gc)) (qB u (ay w.gc) (ay w.gr)):=by
  refine⟨by omega,by omega,by omega,G.W.te,G.W.ro,fun j hj=>?_,G.W.sh,w1,fun k hk=>?_⟩
  ·have hj:j<w.ae.length:=by simpa[Ff,dw,bN]using hj
   show qw _ (gt (w.ae.set _ _) j).cost;rw[gN hj];split
   ·rename_i e;subst e;exact wx.2.2
   ·exact(G.W.co j hj).2.2
  ·have:k=0:=by simpa using hk
   subst this;exact w2
 have gP:=zn (mx:=mx) (s0:=s0) (w:=Ff w i a b) S1 h7 h7' b1 (a:=(gt w.rows i).low.at' / b.num) (ts:=[⟨a.aI, -(a.num / b.num)⟩]) (by simp) (fun k hk=>by
  have:k=0:=by simpa using hk
  subst this;exact⟨a0,a1,by show a.aI.toNat≠b.aI.toNat;omega⟩) hW
 have qx1:bQ (gt w.ae a.aI.toNat).low.at':=ah wx.1 (by omega);have qx2:bQ (gt w.ae a.aI.toNat).high.at':=ah wx.2.1 (by omega);have qy1:bQ (gt w.ae b.aI.toNat).low.at':=ah wy.1 (by omega);have qy2:bQ (gt w.ae b.aI.toNat).high.at':=ah wy.2.1 (by omega);have qto:bQ ((gt w.rows i).low.at' / b.num):=ah w1 (by omega);have qby:bQ (-(a.num / b.num)):=ah w2 (by omega);have qab:bQ (a.num / b.num):=ah (iI wa wb (by omega)) (by omega);have qa:bQ a.num:=ah wa (by omega);have qb:bQ b.num:=ah wb (by omega);have qs1:bQ ((gt w.ae b.aI.toNat).low.at' - (gt w.rows i).low.at' / b.num):=ah (yC wy.1 w1) (by omega);have qs2:bQ ((gt w.ae b.aI.toNat).high.at' - (gt w.rows i).low.at' / b.num):=ah (yC wy.2.1 w1) (by omega);have gM:=fun(lo hi:Bo) (ql:bQ lo.at') (qh:bQ hi.at')=>kY (u:=u) (mx:=mx) (s0:=s0) G.S a1 ql qh qx1 qx2;have em:Ff w i a b=dw (bN w a.aI.toNat (cA (gt w.ae a.aI.toNat)
  (if -(a.num / b.num)<0 then pb (gt w.ae b.aI.toNat).high ((gt w.rows i).low.at' / b.num) (-(a.num / b.num)) else pb (gt w.ae b.aI.toNat).low ((gt w.rows i).low.at' / b.num) (-(a.num / b.num)))
  (if -(a.num / b.num)<0 then pb (gt w.ae b.aI.toNat).low ((gt w.rows i).low.at' / b.num) (-(a.num / b.num)) else pb (gt w.ae b.aI.toNat).high ((gt w.rows i).low.at' / b.num) (-(a.num / b.num))))) i:=rfl
 rw[em]at e0 gP;clear S1 hW em;have qmv:∀(x:Bo),bQ x.at'→bQ (x.at' - (gt w.rows i).low.at' / b.num)→qw (qB u (ay w.gc) (ay w.gr)+(qB u (ay w.gc) (ay w.gr)+qA u (ay w.gc))+1+2*qA u (ay w.gc)) ((x.at' - (gt w.rows i).low.at' / b.num) / -(a.num / b.num))→bQ (pb x ((gt w.rows i).low.at' / b.num) (-(a.num / b.num))).at':=fun x h1 h2 h3=>by
  unfold pb;show bQ (if x.has=true then(x.at' - (gt w.rows i).low.at' / b.num) / -(a.num / b.num) else x.at');split
  ·exact ah h3 (by omega)
  ·exact h1
 have qm1:=qmv _ qy1 qs1 (iI (yC wy.1 w1) w2 (by omega));have qm2:=qmv _ qy2 qs2 (iI (yC wy.2.1 w1) w2 (by omega));clear qmv;refine aa.cutAt 3 (fun st=>((gt w.ae a.aI.toNat).whole=false∧(gt w.ae b.aI.toNat).whole=false)∧st=⟨144,[(0,.ptr 0 0 0),(1,iv i),(5,.ptr 7 0 0),(6,.ptr 8 0 0),(7,.ptr 9 0 0),(9,.ptr 11 0 0)],aG mx s0 w++[some ⟨12,[bE (gt w.rows i)],false⟩,some ⟨5,[aW a],false⟩,some ⟨5,[aW b],false⟩,some ⟨16,[bW (gt w.ae a.aI.toNat)],false⟩,some ⟨16,[bW (gt w.ae b.aI.toNat)],false⟩]⟩) ?_ ?_
 ·clear gM gP;obtain⟨ja,eja⟩:∃ja:Nat,a.aI=ja:=⟨a.aI.toNat,by omega⟩;obtain⟨jb,ejb⟩:∃jb:Nat,b.aI=jb:=⟨b.aI.toNat,by omega⟩;rw[eja]at hjx lx e0 ⊢;rw[ejb]at hjy ly e0 ⊢;simp only[Int.toNat_natCast]at hjx lx hjy ly e0 ⊢;generalize gt w.rows i=r at *;generalize gt w.ae ja=x at *;generalize gt w.ae jb=y at *;simp only[ar,aq,aG,aS,aR];simp;refine aa.zX (.d 8<|.d 9<|.qs [0,1,2,3,4]<|.q 5 [8]<|.qs [6]<|.q 7 [8]<|.b (.l 10 [8]<|.l 11 [9]<|.nil)) (by kernel_rfl) (by kernel_rfl) (by simp) ?_;simp(disch:=omega)[hl,la,lb];repeat refine akI ?_
  refine aa.zX (.d 22<|.d 23<|.qs [0,1,2,3,4,5,6,7,8,9,10,11,12,13]<|.q 14 [10]<|.qs [15,16]<|.q 17 [10]<|.qs [18]<|.q 19 [10]<|.qs [20]<|.q 21 [10]<|.b (.l 24 [10]<|.l 25 [11]<|.nil)) (by kernel_rfl) (by kernel_rfl) (by simp) ?_;by_cases h1:x.whole=true
  ·simp(disch:=omega)[eja,ejb,hjx,hjy,lx,ly,h1];repeat refine akI ?_
   rw[e0,if_neg (by simp[h1])];exact⟨_,_,⟨rfl,rfl⟩,by simp,by simp[aG,aS,aR,dX],by simp[aG],.inr ⟨by simp,by simp[aG,eP,aS,aR]⟩⟩
  ·by_cases h2:y.whole=true
   ·simp(disch:=omega)[eja,ejb,hjx,hjy,lx,ly,h1,h2];repeat refine akI ?_
    rw[e0,if_neg (by simp[h2])];exact⟨_,_,⟨rfl,rfl⟩,by simp,by simp[aG,aS,aR,dX],by simp[aG],.inr ⟨by simp,by simp[aG,eP,aS,aR]⟩⟩
   ·simp(disch:=omega)[eja,ejb,hjx,hjy,lx,ly,h1,h2];repeat refine akI ?_
    simp[aw,hC,aG,aS,aR]
 rintro st ⟨⟨hw1,hw2⟩,rfl⟩;simp only[ao,al];rw[if_pos ⟨hw1,hw2⟩]at e0;have sel:∀(p:Prop) [Decidable p] (x y:Bo),cL (if p then x else y)=if p then cL x else cL y:=fun p _ x y=>by split<;>rfl
 simp only[aG,aS,aR,aly,anu];refine aa.je 11 rfl (by simp) ?_;simp[dH,aK];refine aa.je 9 rfl (by simp) ?_;simp[dH,aK];refine aa.je 8 rfl (by simp) ?_;simp[dH,aK];refine aa.je 7 rfl (by simp) ?_;simp[dH,aK];refine aa.le (Le.bA (by simp[aw,hC,aG,aS,aR,Go.Sv.get]:aw C _ ⟨144,[(0,.ptr 0 0 0),(1,iv i),(5,.bK (bE (gt w.rows i)) 0),(6,.bK (aW a) 0),(7,.bK (aW b) 0),(9,.bK (bW (gt w.ae b.aI.toNat)) 0)],aG mx s0 w⟩)) ?_;refine aa.cutAt 3 (fun st=>st=⟨144,[(0,.ptr 0 0 0),(1,iv i),(6,.bK (aW a) 0),(7,.bK (aW b) 0),(9,.bK (bW (gt w.ae b.aI.toNat)) 0),(10,.ptr 7 0 0),(12,.ptr 8 0 0)],aG mx s0 w++[some ⟨4,[bs ((gt w.rows i).low.at' / b.num)],false⟩,some ⟨4,[bs (-(a.num / b.num))],false⟩]⟩) ?_ ?_
 ·clear gM gP e0;generalize gt w.rows i=r at *;simp only[ar,aq,aG,aS,aR];simp;refine akK (tR r.low.at' b.num q1 qb) ?_;simp;refine akK (tR a.num b.num qa qb) ?_;simp;refine akK (zE (a.num / b.num)) ?_;simp[aw,hC,aG,aS,aR];done
 rintro st rfl;simp only[ao,al];generalize -(a.num / b.num)=iw at *;generalize (gt w.rows i).low.at' / b.num=to at *;simp only[aG,aS,aR,aly,anu];refine aa.je 8 rfl (by simp) ?_;simp[dH,aK];refine aa.je 7 rfl (by simp) ?_;simp[dH,aK];refine aa.le (Le.bA (by simp[aw,hC,aG,aS,aR,Go.Sv.get]:aw C _ ⟨144,[(0,.ptr 0 0 0),(1,iv i),(6,.bK (aW a) 0),(7,.bK (aW b) 0),(9,.bK (bW (gt w.ae b.aI.toNat)) 0),(10,.bK (bs to) 0),(12,.bK (bs iw) 0)],aG mx s0 w⟩)) ?_;refine aa.cutAt 3 (fun st=>st=⟨144,[(0,.ptr 0 0 0),(1,iv i),(6,.bK (aW a) 0),(7,.bK (aW b) 0),(10,.bK (bs to) 0),(12,.bK (bs iw) 0),(15,.ptr 7 0 0),(16,.ptr 8 0 0)],aG mx s0 w++[some ⟨5,[cL (if iw<0 then pb (gt w.ae b.aI.toNat).high to iw else pb (gt w.ae b.aI.toNat).low to iw)],false⟩,some ⟨5,[cL (if iw<0 then pb (gt w.ae b.aI.toNat).low to iw else pb (gt w.ae b.aI.toNat).high to iw)],false⟩]⟩) ?_ ?_
 ·clear gM gP e0;generalize gt w.ae b.aI.toNat=y at *;simp only[ar,aq,aG,aS,aR];simp;refine aa.zX (.d 8<|.d 9<|.qs [0,1,2,4,5,6]<|.p 3<|.p 7<|.b (.l 10 [7]<|.l 11 [8]<|.nil)) (by kernel_rfl) (by kernel_rfl) (by simp) ?_;simp;refine ig (xu y.low to iw qy1 qto qby qs1) (by simp) ?_;simp;refine ig (xu y.high to iw qy2 qto qby qs2) (by simp) ?_;simp;refine akK (pd iw) ?_;by_cases hs:iw<0
  ·simp[hs];simp[aw,hC,aG,aS,aR];done
  ·simp[hs];simp[aw,hC,aG,aS,aR];done
 rintro st rfl;simp only[ao,al];obtain⟨lo,elo⟩:∃lo,(if iw<0 then pb (gt w.ae b.aI.toNat).high to iw else pb (gt w.ae b.aI.toNat).low to iw)=lo:=⟨_,rfl⟩;obtain⟨hi',ehi⟩:∃hi',(if iw<0 then pb (gt w.ae b.aI.toNat).low to iw else pb (gt w.ae b.aI.toNat).high to iw)=hi':=⟨_,rfl⟩;have ql:bQ lo.at':=by rw[←elo];split<;>assumption
 have qh:bQ hi'.at':=by rw[←ehi];split<;>assumption
 rw[elo,ehi];rw[elo,ehi]at gP e0;have gM:=gM lo hi' ql qh;clear elo ehi qm1 qm2 ql qh;obtain⟨ja,eja⟩:∃ja:Nat,a.aI=ja:=⟨a.aI.toNat,by omega⟩;obtain⟨jb,ejb⟩:∃jb:Nat,b.aI=jb:=⟨b.aI.toNat,by omega⟩;have eja':a.aI.toNat=ja:=by omega
 have ejb':b.aI.toNat=jb:=by omega
 rw[eja']at gP gM e0;rw[ejb']at gP e0;refine aa.cutAt 2 (fun st=>st=⟨144,[(0,.ptr 0 0 0),(1,iv i),(6,.bK (aW a) 0),(7,.bK (aW b) 0),(10,.bK (bs to) 0),(12,.bK (bs iw) 0)],aG mx s0 (dw (bN w ja (cA (gt w.ae ja) lo hi')) i)⟩) ?_ ?_
 ·clear gP e0;simp only[ar,aq,aG,aS,aR];simp[eja];refine cN gM [0,1,2,3,4,5,6] (by simp) (by simp[aG,aS,aR]) (by simp) (by simp[aG,hC]) (by simp) ?_;rintro T y ⟨rfl,rfl⟩;simp only[aG,aS,aR,bN,dw];simp(disch:=omega)[hr',l2,eQ, -amw];repeat refine akI ?_
  simp[aw,hC,dX, -amw];done
 rintro st rfl;simp only[ao,al];rw[e0];generalize dw (bN w ja (cA (gt w.ae ja) lo hi')) i=w3 at *;refine aa.go ?_;simp only[aG,aS,aR];simp[ejb];refine BV 7 rfl (by simp) ?_;simp;rw[show List.map aW [⟨a.aI,iw⟩]=[SV.agg (SV.val (Value.int IntKind.i64 a.aI)::(bs iw).cells)] from rfl]at gP;refine cN gP [0,1,2,3,4,5,6] (by simp) (by simp[aG,aS,aR]) (by simp) (by simp[aG,hC]) (by simp) ?_;rintro T y ⟨rfl,rfl⟩;generalize jX w3 jb to [⟨a.aI,iw⟩]=w4;simp only[aG,aS,aR];simp;exact⟨_,_,⟨rfl,rfl⟩,by simp,by simp[aG,aS,aR,dX],by simp[aG],.inr ⟨by simp,by simp[aG,eP,aS,aR]⟩⟩
end Go.Proofs

