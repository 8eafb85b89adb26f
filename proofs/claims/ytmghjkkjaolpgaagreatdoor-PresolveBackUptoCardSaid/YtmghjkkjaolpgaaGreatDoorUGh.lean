/- A text of the prover's own. -/
import Derived.Test.YtmghjkkjaolpgaaGreatDoorUGf
open Nat renaming mul_succ→ao5,mul_le_mul_left→ann
open List renaming all_eq_true→am1,mem_range→aoW,take_of_length_le→anE
set_option maxRecDepth 10000
namespace Go.Ps
open Go Go.Tb Go.Ut Go.Li Go.Proofs Go.Sv Go.Pl
theorem GU{q:Rat}(h:Proofs.qw 8430000000 q):(ff q).size≤168600000010:=by
 have h1:=IQ h.1;have h2:=IQ h.2;unfold ff;split
 ·omega
 ·rw[eO,eO];have:(⟨#[47]⟩:ByteArray).size=1:=rfl;omega
theorem p6{A V:Nat}(hV:1≤V){x:List Rat}(hx:Wd V x){ts:List Term}(ht:∀k,k<ts.length→qw A (gt ts k).num∧0≤(gt ts k).aq∧(gt ts k).aq<x.length):∀k,k≤ts.length→qw (1+(A+V+1)*k) (dY x ts k)
 | 0,_=>Ut.bt _ (by omega)
 | k+1,hk=>by
  obtain⟨h1,h2,h3⟩:=ht k (by omega);have w2:=hx (gt ts k).aq.toNat (by omega);have e:1+(A+V+1)*(k+1)=1+(A+V+1)*k+(A+V)+1:=by rw[ao5];omega
  rw[e];show qw _ (dY x ts k+(gt ts k).num*gt x (gt ts k).aq.toNat);exact ah (jP (p6 hV hx ht k (by omega)) (bW h1 w2 (by omega))) (by omega)
theorem zE{A B V:Nat}(hV:1≤V){p:aO}{x:List Rat}(hw:Hj B A p)(hx:Wd V x)(hl:x.length=p.aa.length):∀j,j≤p.aa.length→qw (B+(B+V+1)*j) (kj p x j)
 | 0,_=>ah hw.sh (by omega)
 | j+1,hj=>by
  have w2:=hx j (by omega);have w3:=(hw.co j (by omega)).1;have e:B+(B+V+1)*(j+1)=B+(B+V+1)*j+(B+V)+1:=by rw[ao5];omega
  rw[e];show qw _ (kj p x j+(gt p.aa j).cost*gt x j);exact ah (jP (zE hV hw hx hl j (by omega)) (bW w3 w2 (by omega))) (by omega)
def p9(b:Bo):Bo:=if b.has=true then b else⟨false,0⟩
def nrC(c:df):df:=⟨c.name,c.whole,p9 c.low,p9 c.high,c.cost⟩
def nrR(r:Row):Row:=⟨r.name,r.ab,p9 r.low,p9 r.high⟩
def lD(p:aO):aO:=⟨p.max,p.shift,p.aa.map nrC,p.rows.map nrR⟩
@[simp] theorem DI(b:Bo):(p9 b).has=b.has:=by unfold p9;split<;>simp_all
theorem zn{b:Bo}(h:b.has=true):(p9 b).at'=b.at':=by unfold p9;rw[if_pos h]
theorem IE(q:Rat)(a b:Bo):ix q (p9 a) (p9 b)=ix q a b:=by
 unfold ix;rw[DI,DI];by_cases h1:a.has=true
 ·by_cases h2:b.has=true
  ·rw[zn h1,zn h2]
  ·simp[h2,zn h1]
 ·by_cases h2:b.has=true
  ·simp[h1,zn h2]
  ·simp[h1,h2]
theorem zi{p:aO}{j:Nat}(h:j<p.aa.length):gt (lD p).aa j=nrC (gt p.aa j):=by unfold lD;rw[dL _ h]
theorem vU{p:aO}{j:Nat}(h:j<p.rows.length):gt (lD p).rows j=nrR (gt p.rows j):=by unfold lD;rw[dL _ h]
@[simp] theorem pZ(p:aO):(lD p).aa.length=p.aa.length:=by simp[lD]
@[simp] theorem AK(p:aO):(lD p).rows.length=p.rows.length:=by simp[lD]
theorem He(p:aO)(x:List Rat)(w:Bool):dq (lD p) x w=dq p x w:=by
 have hc:∀j,j<p.aa.length→tR (lD p) x w j=tR p x w j:=fun j hj=>by
  unfold tR;rw[zi hj];show(ix (gt x j) (p9 _) (p9 _)&&_)=_;rw[IE];rfl
 have hr:∀i,i<p.rows.length→A9 (lD p) x i=A9 p x i:=fun i hi=>by
  unfold A9;rw[vU hi];show ix _ (p9 _) (p9 _)=_;rw[IE];rfl
 unfold dq;rw[pZ,AK];congr 1
 ·rw[Bool.eq_iff_iff,am1,am1];exact⟨fun h j hj=>by rw[←hc j (aoW.1 hj)];exact h j hj,fun h j hj=>by rw[hc j (aoW.1 hj)];exact h j hj⟩
 ·rw[Bool.eq_iff_iff,am1,am1];exact⟨fun h j hj=>by rw[←hr j (aoW.1 hj)];exact h j hj,fun h j hj=>by rw[hr j (aoW.1 hj)];exact h j hj⟩
theorem HN(p:aO)(x:List Rat):∀j,j≤p.aa.length→kj (lD p) x j=kj p x j
 | 0,_=>rfl
 | j+1,hj=>by
  show kj (lD p) x j+(gt (lD p).aa j).cost*gt x j=kj p x j+(gt p.aa j).cost*gt x j;rw[HN p x j (by omega),zi (by omega)];rfl
theorem y5{k:Nat}{b:Bo}(h:qw k b.at')(hk:1≤k):qw k (p9 b).at':=by
 unfold p9;split
 ·exact h
 ·exact Ut.bt _ hk
theorem NV{A B:Nat}{p:aO}(h:Hj B A p)(hB:1≤B):Hj B A (lD p) where
 sh:=h.sh
 co:=fun j hj=>by
  have hj':j<p.aa.length:=by simpa using hj
  rw[zi hj'];obtain⟨a,b,c⟩:=h.co j hj';exact⟨a,y5 b hB,y5 c hB⟩
 ro:=fun i hi=>by
  have hi':i<p.rows.length:=by simpa using hi
  rw[vU hi'];obtain⟨a,b⟩:=h.ro i hi';exact⟨y5 a hB,y5 b hB⟩
 te:=fun i hi k hk=>by
  have hi':i<p.rows.length:=by simpa using hi
  rw[vU hi']at hk ⊢;exact h.te i hi' k hk
end Go.Ps
namespace Go.Proofs
open Go.Sv Go Go.Tb Go.Pl Go.Ut Go.Li Go.Ps
theorem HZ{A V:Nat}(hK:A+V+1≤1250000000)(hV:1≤V)(r:Row)(hn:r.ab.length≤7)(x:List Rat)(hx:Wd V x)(ht:∀k,k<r.ab.length→qw A (gt r.ab k).num∧0≤(gt r.ab k).aq∧(gt r.ab k).aq<x.length):aI Tryz.prog 49 [dW r,.ro (x.map cC)] (cC (dY x r.ab r.ab.length)):=by
 refine aj Tryz.func49 rfl (by simp) (fun C hC=>?_);simp;refine alT (WM) ?_;simp;refine ae.cq (ι:=Nat) (fun k=>⟨34,[(1,.ro (x.map cC)),(2,.ptr 0 0 0),(4,.ptr 1 0 0),(5,.ptr 2 0 0),(6,iv k)],[some ⟨13,[dW r],false⟩,some ⟨4,[.agg [.val (.bool false),.val (.slice none 0 0),.val (.bool false),.val (.slice none 0 0)]],false⟩,some ⟨4,[cC (dY x r.ab k)],false⟩]⟩)
  (fun k=>k≤r.ab.length) (fun k=>r.ab.length - k) 0 (by simp) ?_ ?_
 ·simp[ar,hC,dY]
 ·rintro k hk;by_cases aF:k<r.ab.length
  ·obtain⟨h1,h2,h3⟩:=ht k aF;have w1:=p6 hV hx ht k (by omega);have hm:(A+V+1)*k≤(A+V+1)*7:=ann _ (by omega);have w2:=hx (gt r.ab k).aq.toNat (by omega);have l3:aA (x.map cC) (gt r.ab k).aq.toNat=cC (gt x (gt r.ab k).aq.toNat):=zT (by omega);simp(disch:=omega)[aF];repeat refine alR ?_
   refine ae.yj (.d 14<|.qs [0,1,2,3,4,5,6,7,8,9,10,11,12]<|.p 13<|.b (.l 15 [3]<|.nil)) (by kernel_rfl) (by kernel_rfl) (by simp) ?_;simp(disch:=omega)[aF,xH,yt,l3];repeat refine alR ?_
   refine mS (D7 _ _ (cG h1 (by omega)) (cG w2 (by omega))) (by simp) ?_;simp;refine alT (DP _ _ (cG w1 (by omega)) (cG (bW h1 w2 (by omega)) (by omega))) ?_;simp(disch:=omega)[aP];repeat refine alR ?_
   exact⟨k+1,by omega,by omega,Le.ct (by simp(disch:=omega)[ar,hC,aP,dY])⟩
  ·obtain rfl:k=r.ab.length:=by omega
   simp
theorem u4{A B V:Nat}(hK:A+B+V+1≤1250000000)(hV:1≤V)(p:aO)(h7:p.aa.length≤7)(hw:Hj B A p)(x:List Rat)(hx:Wd V x)(hl:x.length=p.aa.length):aI Tryz.prog 23 [eQ p,.ro (x.map cC)] (cC (kj p x p.aa.length)):=by
 refine aj Tryz.func23 rfl (by simp) (fun C hC=>?_);simp;refine ae.cq (ι:=Nat) (fun j=>⟨32,[(1,.ro (x.map cC)),(2,.ptr 0 0 0),(4,.ptr 1 0 0),(5,.ptr 2 0 0),(6,iv j)],[some ⟨7,[eQ p],false⟩,some ⟨4,[.agg [.val (.bool false),.val (.slice none 0 0),.val (.bool false),.val (.slice none 0 0)]],false⟩,some ⟨4,[cC (kj p x j)],false⟩]⟩)
  (fun j=>j≤p.aa.length) (fun j=>p.aa.length - j) 0 (by simp) ?_ ?_
 ·simp[ar,hC,kj]
 ·rintro j hj;by_cases aF:j<p.aa.length
  ·have w1:=zE hV hw hx hl j (by omega);have hm:(B+V+1)*j≤(B+V+1)*7:=ann _ (by omega);have w2:=hx j (by omega);have w3:=(hw.co j aF).1;simp(disch:=omega)[aF];repeat refine alR ?_
   refine ae.yj (.d 11<|.qs [0,1,2,3,4,5,6,7,8,9]<|.p 10<|.b (.l 12 [3]<|.nil)) (by kernel_rfl) (by kernel_rfl) (by simp) ?_;simp(disch:=omega)[aF,oW,zT];repeat refine alR ?_
   refine mS (D7 _ _ (cG w3 (by omega)) (cG w2 (by omega))) (by simp) ?_;simp;refine alT (DP _ _ (cG w1 (by omega)) (cG (bW w3 w2 (by omega)) (by omega))) ?_;simp(disch:=omega)[aP];repeat refine alR ?_
   exact⟨j+1,by omega,by omega,Le.ct (by simp(disch:=omega)[ar,hC,aP,kj])⟩
  ·obtain rfl:j=p.aa.length:=by omega
   simp
theorem pS{A B V:Nat}(hK:A+B+V+1≤1250000000)(hV:1≤V)(p:aO)(h7:p.aa.length≤7)(r7:p.rows.length≤7)(hw:Hj B A p)(hb:∀i,i<p.rows.length→(gt p.rows i).ab.length≤7∧∀k,k<(gt p.rows i).ab.length→0≤(gt (gt p.rows i).ab k).aq∧(gt (gt p.rows i).ab k).aq<p.aa.length)(x:List Rat)(hx:Wd V x)(hl:x.length=p.aa.length)(whole:Bool):aI Tryz.prog 19 [eQ p,.ro (x.map cC),cU whole] (cU (dq p x whole)):=by
 refine aj Tryz.func19 rfl (by simp) (fun C hC=>?_);simp[hl];refine ae.cq (ι:=Nat) (fun j=>⟨89,[(1,.ro (x.map cC)),(2,cU whole),(3,.ptr 0 0 0),(7,iv j)],[some ⟨7,[eQ p],false⟩]⟩)
  (fun j=>j≤p.aa.length∧∀k,k<j→tR p x whole k=true) (fun j=>p.aa.length - j) 0 (by simp) ?_ ?_
 ·simp[ar,hC]
 ·rintro j ⟨hj,hb'⟩;by_cases aF:j<p.aa.length
  ·have w1:=hx j (by omega);have w2:=hw.co j aF;have no:=FT (x:=x) (w:=whole) aF;simp(disch:=omega)[aF,oW];repeat refine alR ?_
   refine ae.alS (.qs [0,1,2,3,4,5,6,7]<|.l 8 []<|.qs [9]<|.nil) ?_;simp(disch:=omega)[zT,aF];repeat refine alR ?_
   refine alT (wP (gt x j) (gt p.aa j).low (gt p.aa j).high (cG w1 (by omega)) (cG w2.2.1 (by omega)) (cG w2.2.2 (by omega))) ?_;simp(disch:=omega)[zT];repeat refine alR ?_
   refine alT (Ak (gt x j)) ?_;simp(disch:=omega)[aP];repeat refine alR ?_
   repeat' (apply And.intro<;>intro _)
   all_goals first | exact no (by simp[tR, *]) | exact⟨j+1,⟨by omega,stp hb' (by simp[tR, *])⟩,by omega,Le.ct (by simp(disch:=omega)[ar,hC,aP])⟩
  ·obtain rfl:j=p.aa.length:=by omega
   simp;refine ae.cq (ι:=Nat) (fun i=>⟨89,[(1,.ro (x.map cC)),(3,.ptr 0 0 0),(11,iv i)],[some ⟨7,[eQ p],false⟩]⟩)
    (fun i=>i≤p.rows.length∧∀k,k<i→A9 p x k=true) (fun i=>p.rows.length - i) 0 (by simp) ?_ ?_
   ·simp[ar,hC]
   ·rintro i ⟨hi,hr⟩;by_cases aF:i<p.rows.length
    ·have nt:(gt p.rows i).ab.length≤7:=(hb i aF).1;have to:∀k,k<(gt p.rows i).ab.length→qw A (gt (gt p.rows i).ab k).num∧0≤(gt (gt p.rows i).ab k).aq∧(gt (gt p.rows i).ab k).aq<x.length:=fun k hk=>by
      have:=(hb i aF).2 k hk;exact⟨hw.te i aF k hk,by omega,by omega⟩
     have ws:=p6 hV hx to (gt p.rows i).ab.length (Nat.le_refl _);have hm:(A+V+1)*(gt p.rows i).ab.length≤(A+V+1)*7:=ann _ nt;have w2:=hw.ro i aF;have no:=E2 (x:=x) (w:=whole) aF;simp(disch:=omega)[aF,j3];repeat refine alR ?_
     refine alT (HZ (A:=A) (V:=V) (by omega) hV (gt p.rows i) nt x hx to) ?_;simp;refine ae.alS (.qs [0,1,2,3,4,5,6,7,8,9,10,11,12]<|.l 13 []<|.qs [14]<|.nil) ?_;simp(disch:=omega)[aF,j3];repeat refine alR ?_
     refine alT (wP _ (gt p.rows i).low (gt p.rows i).high (cG ws (by omega)) (cG w2.1 (by omega)) (cG w2.2 (by omega))) ?_;simp(disch:=omega)[aP];repeat refine alR ?_
     exact⟨fun q=>no q,fun q=>⟨i+1,⟨by omega,stp hr q⟩,by omega,Le.ct (by simp(disch:=omega)[ar,hC,aP])⟩⟩
    ·obtain rfl:i=p.rows.length:=by omega
     simp[E7 hb' hr]
theorem yg(q:Rat)(h:qw 8430000000 q):aI Tryz.prog 46 [.val (.string (ff q))] (.bG [cC q,eS 0 (-1)]):=by
 have hz:=GU h;have g:=xL (ff q) ((ff q).size+1) (by omega) (by omega) (by omega);rw[D4 q (by omega)]at g;rw[show iu (q,0,0)=.bG [cC q,eS 0 (-1)] by simp[iu,eS]]at g;refine aj Tryz.func46 rfl (by simp) (fun C hC=>?_);simp(disch:=omega)[aP];repeat refine alR ?_
 refine alT (g) ?_;simp[eS]
theorem uV(l:List Rat)(hl:l.length≤1048576)(h:Wd 8430000000 l):aI Tryz.prog 17 [.ro ((rq l).map cZ)] (.bG [.ro (l.map cC),.val (.bool true)]):=by
 have hz:(rq l).length=l.length:=by simp
 refine aj Tryz.func17 rfl (by simp) (fun C hC=>?_);simp;refine ae.nil 4 4 rfl ?_;refine ae.cq (ι:=Nat × List Rat) (fun⟨i,xs⟩=>⟨30,[(0,.ro ((rq l).map cZ)),(4,.view 0 0 xs.length),(5,iv i)],[some ⟨4,xs.map cC,false⟩]⟩)
  (fun⟨i,xs⟩=>i≤l.length∧xs=l.take i) (fun⟨i,xs⟩=>l.length - i) (0,[]) (by simp) ?_ ?_
 ·simp[ar,hC]
 ·rintro⟨i,xs⟩ ⟨hi,hx⟩;have hxl:xs.length=i:=by rw[hx];simp;omega
  by_cases aF:i<l.length
  ·have e:gt (rq l) i=ff (gt l i):=by unfold rq;rw[dL _ aF]
   have e2:aA ((rq l).map cZ) i=.val (.string (ff (gt l i))):=by rw[iE (by omega),e];rfl
   have e3:=fP aF;rw[←hx]at e3;simp(disch:=omega)[aF,e2];repeat refine alR ?_
   refine alT (yg (gt l i) (h i aF)) ?_;simp(disch:=omega)[eS,aP];repeat refine alR ?_
   exact⟨⟨by simp[hC],by omega⟩,i+1,xs++[gt l i],⟨by omega,e3.symm⟩,by omega,Le.ct (by simp(disch:=omega)[ar,hC,aP])⟩
  ·obtain rfl:i=l.length:=by omega
   rw[anE (by simp)]at hx;simp[hx,anE]
theorem qM(q:Rat)(h:qw 8430000000 q):aI Tryz.prog 86 [.val (.string (ff q)),.val (.bool true)] (.bG [cC q,eS 0 (-1)]):=by
 refine aj Tryz.func86 rfl (by simp) (fun C hC=>?_);simp;refine alT (yg q h) ?_;simp[eS]
theorem qt(b:Bo)(h:qw 8430000000 b.at'):aI Tryz.prog 87 [.val (.string (Af b)),.val (.bool true)] (.bG [iz (p9 b),.val (.bool true)]):=by
 refine aj Tryz.func87 rfl (by simp) (fun C hC=>?_);simp;by_cases hb:b.has=true
 ·rw[Ey hb];have ne:¬ff b.at'=⟨#[]⟩:=fun e=>KX b.at' (e.trans rfl);simp[ne];refine alT (qM b.at' h) ?_;simp[eS];refine ae.alS (.qs [0,1,2]<|.q 3 [0]<|.qs [4]<|.l 5 [0]<|.qs [6]<|.nil) ?_;simp;have e:iz (p9 b)=iz ⟨true,b.at'⟩:=by unfold p9;rw[if_pos hb];cases b;simp_all
  rw[e,Na];exact eh _ _ rfl
 ·have hb':b.has=false:=by simpa using hb
  rw[GJ hb'];simp[e0];have e:iz (p9 b)=iz ⟨false,0⟩:=by unfold p9;rw[if_neg hb]
  rw[e,OS];simp
end Go.Proofs
set_option maxRecDepth 10000
set_option maxHeartbeats 2000000
namespace Go.Proofs
open Go.Sv Go Go.Tb Go.Pl Go.Ut Go.Li Go.Ps
theorem Fx(p:aO)(hw:Hj 8430000000 8430000000 p)(hc:p.aa.length≤120)(hr:p.rows.length≤120)(ht:∀i,i<p.rows.length→(gt p.rows i).ab.length≤120):aI Tryz.prog 51 [dv (cf p),.val (.bool true)] (.bG [eQ (lD p),.val (.bool true)]):=by
 have lc:(cf p).aa.length=p.aa.length:=by simp[cf]
 have lr:(cf p).rows.length=p.rows.length:=by simp[cf]
 have n1:(cf p).max=p.max:=rfl;have n2:(cf p).shift=ff p.shift:=rfl;have nrc:=pZ p;have nrr:=AK p;refine il Tryz.func51 rfl (by simp) (fun C hC=>?_);simp;refine alT (qM p.shift hw.sh) ?_;simp[eS];refine ae.le (Le.cJ 2 5 16 rfl rfl rfl rfl (by simp)) ?_;simp[aN,ao,bD];refine ae.le (Le.cJ 2 6 13 rfl rfl rfl rfl (by simp)) ?_;refine ae.cq (ι:=Nat) (fun i=>⟨193,[(1,cU true),(2,.ptr 0 0 0),(4,.ptr 1 0 0),(6,.ptr 2 0 0),(9,cU true),(10,iv i)],
   [some ⟨4,[dv (cf p)],false⟩,some ⟨7,[.agg [.val (.bool false),.val (.bool false),.val (.slice none 0 0),.val (.bool false),.val (.slice none 0 0),.val (.slice none 0 0),.val (.slice none 0 0)]],false⟩,some ⟨7,[.agg (cU p.max::((cC p.shift).cells++[.view 5 0 i,.view 6 0 0]))],false⟩,some ⟨4,[cC p.shift],false⟩,some ⟨2,[.agg [.val (.int .i64 0),.val (.int .i64 (-1))]],false⟩,
    some ⟨16,((lD p).aa.take i).map cB,false⟩,some ⟨13,[],false⟩]⟩)
  (fun i=>i≤p.aa.length) (fun i=>p.aa.length - i) 0 (by simp) ?_ ?_
 ·simp[ar,hC,aN,n1];done
 ·rintro j hj;by_cases aF:j<p.aa.length
  ·obtain⟨w1,w2,w3⟩:=hw.co j aF;have g1:=Az aF;have g2:=zi aF;have lcT:=oE (l:=(cf p).aa) (i:=j) (by omega);rw[g1]at lcT;have f1:(tD (gt p.aa j)).low=Af (gt p.aa j).low:=rfl;have f2:(tD (gt p.aa j)).high=Af (gt p.aa j).high:=rfl;have f3:(tD (gt p.aa j)).cost=ff (gt p.aa j).cost:=rfl;have f4:(tD (gt p.aa j)).name=(gt p.aa j).name:=rfl;have f5:(tD (gt p.aa j)).whole=(gt p.aa j).whole:=rfl;simp(disch:=omega)[aF,lc,lcT];repeat refine alR ?_
   rw[f1];refine alT (qt (gt p.aa j).low w2) ?_;simp;rw[f2];refine alT (qt (gt p.aa j).high w3) ?_;simp;rw[f3];refine alT (qM (gt p.aa j).cost w1) ?_;simp[eS,f4,f5];have em:SV.agg (SV.val (.string (gt p.aa j).name)::SV.val (.bool (gt p.aa j).whole)::((iz (p9 (gt p.aa j).low)).cells++((iz (p9 (gt p.aa j).high)).cells++(cC (gt p.aa j).cost).cells)))=cB (nrC (gt p.aa j)):=rfl;exact⟨⟨by simp[hC],by omega,by omega⟩,j+1,by omega,by omega,Le.ct (by simp(disch:=omega)[ar,hC,aP,mQ cB (show j<(lD p).aa.length by omega),g2,em])⟩
  ·obtain rfl:j=p.aa.length:=by omega
   simp(disch:=omega)[lc];repeat refine alR ?_
   refine ae.cq (ι:=Nat) (fun i=>⟨193,[(1,cU true),(2,.ptr 0 0 0),(4,.ptr 1 0 0),(6,.ptr 2 0 0),(9,cU true),(18,iv i)],[some ⟨4,[dv (cf p)],false⟩,some ⟨7,[.agg [.val (.bool false),.val (.bool false),.val (.slice none 0 0),.val (.bool false),.val (.slice none 0 0),.val (.slice none 0 0),.val (.slice none 0 0)]],false⟩,some ⟨7,[.agg (cU p.max::((cC p.shift).cells++[.view 5 0 p.aa.length,.view 6 0 i]))],false⟩,some ⟨4,[cC p.shift],false⟩,some ⟨2,[.agg [.val (.int .i64 0),.val (.int .i64 (-1))]],false⟩,some ⟨16,(lD p).aa.map cB,false⟩,some ⟨13,((lD p).rows.take i).map dW,false⟩]⟩)
    (fun i=>i≤p.rows.length) (fun i=>p.rows.length - i) 0 (by simp) ?_ ?_
   ·have t3:List.take p.aa.length ((lD p).aa.map cB)=(lD p).aa.map cB:=anE (by simp);simp[ar,hC,t3];done
   ·rintro i hi;by_cases aF:i<p.rows.length
    ·obtain⟨w1,w2⟩:=hw.ro i aF;have wt:=hw.te i aF;have tl:=ht i aF;have g1:=A4 aF;have g2:=vU aF;have lrT:=oc (l:=(cf p).rows) (i:=i) (by omega);rw[g1]at lrT;have m1:(ee (gt p.rows i)).low=Af (gt p.rows i).low:=rfl;have m2:(ee (gt p.rows i)).high=Af (gt p.rows i).high:=rfl;have m3:(ee (gt p.rows i)).name=(gt p.rows i).name:=rfl;have hl1:(ee (gt p.rows i)).aa.length=(gt p.rows i).ab.length:=by simp[ee]
     have hl2:(ee (gt p.rows i)).cN.length=(gt p.rows i).ab.length:=by simp[ee]
     simp(disch:=omega)[aF,lr,lrT];repeat refine alR ?_
     rw[m1];refine alT (qt (gt p.rows i).low w1) ?_;simp;rw[m2];refine alT (qt (gt p.rows i).high w2) ?_;simp;refine ae.le (Le.cJ 10 1 1 rfl rfl rfl rfl (by simp)) ?_;simp[aN,ao,bD];refine ae.le (Le.cJ 10 2 4 rfl rfl rfl rfl (by simp)) ?_;simp[aN,ao,bD];generalize gt p.rows i=r at *;refine ae.Hk (ι:=Nat) (fun k=>⟨193,[(1,cU true),(2,.ptr 0 0 0),(4,.ptr 1 0 0),(6,.ptr 2 0 0),(9,cU true),(18,iv i),(19,.ptr 7 0 0),(24,.ptr 10 0 0),(25,iv k)],
       [some ⟨4,[dv (cf p)],false⟩,some ⟨7,[.agg [.val (.bool false),.val (.bool false),.val (.slice none 0 0),.val (.bool false),.val (.slice none 0 0),.val (.slice none 0 0),.val (.slice none 0 0)]],false⟩,some ⟨7,[.agg (cU p.max::((cC p.shift).cells++[.view 5 0 p.aa.length,.view 6 0 i]))],false⟩,some ⟨4,[cC p.shift],false⟩,some ⟨2,[.agg [.val (.int .i64 0),.val (.int .i64 (-1))]],false⟩,some ⟨16,(lD p).aa.map cB,false⟩,some ⟨13,((lD p).rows.take i).map dW,false⟩,
        some ⟨5,[ib (ee r)],false⟩,some ⟨5,[iz (p9 r.low)],false⟩,some ⟨5,[iz (p9 r.high)],false⟩,some ⟨13,[.agg (cZ r.name::.view 11 0 k::.view 12 0 k::((iz (p9 r.low)).cells++(iz (p9 r.high)).cells))],false⟩,some ⟨1,Cl (r.ab.take k),false⟩,some ⟨4,Cm (r.ab.take k),false⟩]⟩)
      (fun k=>k≤r.ab.length) (fun k=>r.ab.length - k) 0 (by omega) ?_ ?_
     ·simp[ar,hC,m3,Cl,Cm];done
     ·rintro k hk;by_cases hkl:k<r.ab.length
      ·have tk:=fP (l:=r.ab) hkl;have g3:gt (ee r).aa k=(gt r.ab k).aq:=by unfold ee;rw[dL _ hkl]
       have g4:gt (ee r).cN k=ff (gt r.ab k).num:=by unfold ee;rw[dL _ hkl]
       have g5:=wt k hkl;have tml:min k r.ab.length=k:=by omega
       refine ae.go ?_;simp(disch:=omega)[hl1,hl2,hkl,oA,iE,g3,g4,tml];repeat refine alR ?_
       refine alT (qM _ g5) ?_;simp[eS];refine ae.alS (.qs [0,1,2,3,4,5,6]<|.l 7 []<|.l 8 [1000000]<|.qs [9]<|.l 10 [10,1000000]<|.nil) ?_;simp(disch:=omega)[hl1,hl2,hkl,oA,iE,g3,g4,tml];repeat refine alR ?_
       refine⟨⟨by simp[hC],by omega⟩,⟨by simp[hC],by omega⟩,?_⟩;exact⟨k+1,by omega,by omega,Le.ct (by simp(disch:=omega)[ar,hC,aP,tk,Hb,Hs])⟩
      ·obtain rfl:k=r.ab.length:=by omega
       rw[List.take_length];refine ae.kE 12 rfl (by simp) ?_;simp[fg,aN];refine ae.kE 11 rfl (by simp) ?_;simp[fg,aN];refine ae.go ?_;simp(disch:=omega)[hl1,hl2];repeat refine alR ?_
       have er:SV.agg (SV.val (.string r.name)::.ro (Cl r.ab)::.ro (Cm r.ab)::((iz (p9 r.low)).cells++(iz (p9 r.high)).cells))=dW (nrR r):=rfl;refine⟨⟨by simp[hC],by omega⟩,?_⟩;exact⟨i+1,by omega,by omega,Le.ct (by simp(disch:=omega)[ar,hC,aP,mQ dW (show i<(lD p).rows.length by omega),g2,er])⟩
    ·obtain rfl:i=p.rows.length:=by omega
     simp(disch:=omega)[lr];repeat refine alR ?_
     have t2:((lD p).rows.map dW).take p.rows.length=(lD p).rows.map dW:=anE (by simp);have t1:((lD p).aa.map cB).take p.aa.length=(lD p).aa.map cB:=anE (by simp);refine⟨_,(Le.kE 6 rfl (by simp)).trans (Le.kE 5 rfl (by simp)),?_⟩;simp[fg,aN,t1,t2];have e2:eQ (lD p)=.agg (SV.val (.bool p.max)::((cC p.shift).cells++[.ro ((lD p).aa.map cB),.ro ((lD p).rows.map dW)])):=rfl;rw[e2];exact eh _ _ rfl
theorem F6(p:aO)(hw:Hj 8430000000 8430000000 p)(hc:p.aa.length≤120)(hr:p.rows.length≤120)(ht:∀i,i<p.rows.length→(gt p.rows i).ab.length≤120):aI Tryz.prog 22 [dv (cf p)] (.bG [eQ (lD p),.val (.bool true)]):=by
 refine aj Tryz.func22 rfl (by simp) (fun C hC=>?_);simp;refine alT (Fx p hw hc hr ht) ?_;simp
end Go.Proofs

