/- A text of the prover's own. -/
import Derived.Test.YtnimjdcaajmfcaaGreatDoorVXd
open List renaming replicate->awQ,range->ayq,cons_append->ayb,nil_append->aAf,take->aBA,take_of_length_le->aAp,length_take->aAc,map_set->aAq
open Go.Proofs.Tryz renaming f78->aCi,prog->ay9
open Option renaming getD_some->ayj
set_option maxRecDepth 10000
set_option maxHeartbeats 400000
namespace Go.Sx
open Go Go.Sv Go.Pl Go.Proofs Go.Tb Go.Ut Go.Mx Go.Li Go.Dt
theorem N3{N m k:Nat}(h:m+6<=k):SV.aY k (Dc N m)=false:=by
 unfold Dc;rw[gU,List.any_eq_false];intro i hi;have hi:i<m:=by simpa using hi
 simp[R5];omega
def Tv(c:Tc):Prop:=∃k,k<c.N∧(gt c.low k).has=true∧(gt c.high k).has=true∧(gt c.high k).at'<(gt c.low k).at'
def gW(c:Tc)(s:Tb)(j:Nat)(y:Rat):Nat->List Rat
 | 0=>(awQ c.N 0).set j y
 | i+1=>(gW c s j y i).set (gt s.basic i) (gt (gt s.R i) j*y)
@[simp] theorem kP(c:Tc)(s:Tb)(j:Nat)(y:Rat):∀i,(gW c s j y i).length=c.N
 | 0=>by simp[gW]
 | i+1=>by simp only[gW,List.length_set];exact kP c s j y i
def qy(c:Tc)(K:(Nat->Rat)->Prop)(s:Tb)(cl:kB):Prop:=s.R.length=c.m∧fm c K s ∧
 (
  (Tv c∧cl=⟨2,[],[],[],0⟩) ∨
  (HB c∧∃(i:Nat) (ac:Bool),Gj c s i ac∧cl=⟨2,[],(ayq c.m).map (BP c s i ac),[],0⟩) ∨
  (HB c∧mr c s∧EU c s∧cl=⟨1,s.x.take c.n,(ayq c.m).map (vP c s),[],gO c.p (s.x.take c.n) c.n⟩) ∨
  (HB c∧mr c s∧∃(j:Nat) (up:Bool),sJ c s j up∧cl=⟨3,s.x.take c.n,[],(gW c s j (yD up 1) c.m).take c.n,0⟩))
def ac7(c:Tc)(K:(Nat->Rat)->Prop)(T:aC)(v:SV):Prop:=∃s cl,T=tT c s []∧v=lS cl∧qy c K s cl
end Go.Sx
namespace Go.Proofs
open Go.Sv Go Go.Tb Go.Pl Go.Ut Go.Mx Go.Li Go.Dt Go.Sx
noncomputable def cL:Code:=aCi.body.getD .skip
def Gs(C:Ctx)(c:Tc)(K:(Nat->Rat)->Prop)(s0:Tb):bf:=Yp C (im ay9 [.cell 2 80] [] (sY (tT c s0 []) [] (ac7 c K)))
theorem AA{C:Ctx}{c:Tc}{K:(Nat->Rat)->Prop}{s0:Tb}:∀l st,¬Gs C c K s0 (.panic l) st:=λl st ⟨st',_,h⟩=>by simp at h
theorem GO{C:Ctx}{c:Tc}{K:(Nat->Rat)->Prop}{s0 s:Tb}{cl:kB}{fr:List (Nat × SV)}{v:SV}{tl:aC}(h0:s0.R.length=c.m)(fx:∀k∈C.fx,k<c.m+6)(hf:Go.Sv.get (Aa fr) 2=some (.ptr (c.m+6) 0 0))(hv:ig v=lS cl)(h:qy c K s cl) :
  Gs C c K s0 .ret ⟨161,fr,tT c s (some ⟨8,[v],false⟩::tl)⟩:=by
 have hR:=h.1;refine⟨⟨161,[(2,.ptr (c.m+6) 0 0)],tT c s [some ⟨8,[lS cl],false⟩]⟩,?_,?_⟩
 ·refine tD s hR fx (by simp[bY,hf]) ?_ (by simp[gK,SV.lt]) (by simp[eA]);have e:ry (some ⟨8,[v],false⟩::tl)=some ⟨8,[lS cl],false⟩::ry tl:=by
   rw[jO];show some (⟨8,ig v::kT [],false⟩:cJ)::_=_;rw[hv];rfl
  rw[e];exact⟨.inr rfl,by cases ry tl<;>trivial⟩
 ·simp only[tT,tH,tS,ayb,aAf];simp[hR,cN hR];exact⟨_,_,⟨s,cl,rfl,rfl,h⟩,rfl,rD c s [some ⟨8,[lS cl],false⟩],by simp[tT,tH,h0,hR],.inr ⟨by simp,qQ hR⟩⟩
theorem ant{c:Tc}{K:(Nat->Rat)->Prop}{s:Tb}(hc:qe c)(hw:BN c)(h:fm c K s){C:Ctx}(fx:∀k∈C.fx,k<c.m+6)
  (hn:HB c->aa ay9 C (bh 2 cL) ⟨161,[(0,.ptr 0 0 0),(2,.ptr (c.m+6) 0 0)],tT c s [some ⟨8,[dD 0],false⟩]⟩ (Gs C c K s)) :
  aa ay9 C cL ⟨161,[(0,.ptr 0 0 0)],tT c s []⟩ (Gs C c K s):=by
 have h7:=hc.m7;have af:=hc.ur;have hR:=h.t.R;have av:=h.t.x;have ag:=hc.lo;have aj:=hc.hi;have e0:ig (dD 2)=lS ⟨2,[],[],[],0⟩:=by have:lS ⟨2,[],[],[],0⟩=.agg (iv 2::.ro []::.ro []::.ro []::(aS 0).cells):=rfl;rw[this,<-ou];rfl
 refine aa.cutAt 2 (λst=>HB c∧st=⟨161,[(0,.ptr 0 0 0),(2,.ptr (c.m+6) 0 0)],tT c s [some ⟨8,[dD 0],false⟩]⟩) ?_ ?_
 rotate_left 1
 ·rintro st ⟨hb,rfl⟩;exact hn hb
 clear hn;simp only[cL,aCi,ayj,aN,aL];simp only[tT,tH,tS,ayb,aAf];simp(disch:=omega)[hR];repeat refine awG ?_
 refine aa.bB (ι:=Nat) (λj=>⟨161,[(0,.ptr 0 0 0),(2,.ptr (c.m+6) 0 0),(21,iv c.N),(22,iv j)],tT c s [some ⟨8,[dD 0],false⟩]⟩)
  (λj=>j<=c.N∧∀k,k<j->(gt c.low k).has=true->(gt c.high k).has=true->(gt c.low k).at'<=(gt c.high k).at') (λj=>c.N - j) 0 ⟨by omega,λk hk=>by omega⟩ ?_ ?_
 ·exact⟨rfl,by simp[bY,Go.Sv.get],ao _,.inl rfl⟩
 ·rintro j ⟨hj,hq⟩;by_cases ad:j<c.N
  ·have ak:aM (c.low.map dA) j=dA (gt c.low j):=ct _ (by omega);have al:aM (c.high.map dA) j=dA (gt c.high j):=ct _ (by omega);have ql:=hw.lo j ad;have qh:=hw.hi j ad;have aw:(∀_:(gt c.low j).has=true,∀_:(gt c.high j).has=true,(gt c.low j).at'<=(gt c.high j).at')->∀k,k<j+1->(gt c.low k).has=true->(gt c.high k).has=true->(gt c.low k).at'<=(gt c.high k).at':=λg k hk=>by
    by_cases e:k=j
    ·rw[e];exact g
    ·exact hq k (by omega)
   simp only[tT,tH,tS,dD,ayb,aAf];simp(disch:=omega)[ad];repeat refine awG ?_
   obtain⟨U,hU⟩:∃U:Bool,U=((gt c.low j).has&&(gt c.high j).has&&decide ((gt c.high j).at'<(gt c.low j).at')):=⟨_,rfl⟩;refine aa.xD (.qs [0,1,2,3,4,5,6,7,8,9,10,11,12,13,14,15,16,17,18,19,20,21,22,23,24,25,26,27,28,29,30,31,32,33,34]<|.l 35 []<|.qs [36,37]<|.nil) ⟨161,[(0,.ptr 0 0 0),(2,.ptr (c.m+6) 0 0),(3,iv j),(21,iv c.N),(22,iv j),(62,dr U)],tT c s [some ⟨8,[dD 0],false⟩]⟩ (by kernel_rfl) (by kernel_rfl) ?_ ?_
   ·by_cases u1:(gt c.low j).has=true
    ·by_cases u2:(gt c.high j).has=true
     ·simp(disch:=omega)[ad,ag,aj,ak,al,u1,u2];repeat refine awG ?_
      have cm:=rP (gt c.low j).at' (gt c.high j).at' (aq ql (by omega)) (aq qh (by omega));have cl:=@AE (gt c.low j).at' (gt c.high j).at';generalize (if(gt c.low j).at'<(gt c.high j).at' then(-1:Int) else if(gt c.high j).at'<(gt c.low j).at' then 1 else 0)=z at *;refine awI (cm) ?_;simp;exact⟨rfl,by simp[bY,Go.Sv.get,hU,u1,u2,cl],ao _,.inl rfl⟩
     ·simp(disch:=omega)[ad,ag,aj,ak,al,u1,u2];repeat refine awG ?_
      exact⟨rfl,by simp[bY,Go.Sv.get,hU,u1,u2],ao _,.inl rfl⟩
    ·simp(disch:=omega)[ad,ag,ak,u1];repeat refine awG ?_
     exact⟨rfl,by simp[bY,Go.Sv.get,hU,u1],ao _,.inl rfl⟩
   simp only[tT,tH,tS,dD,ayb,aAf];simp[cN hR,cV hR];refine⟨λhu=>?_,λhu=>?_⟩
   ·rw[hu]at hU;have hU:((gt c.low j).has=true∧(gt c.high j).has=true)∧(gt c.high j).at'<(gt c.low j).at':=by simpa using hU.symm
    exact GO (s:=s) (v:=dD 2) (tl:=[]) hR fx (by simp[Aa,Go.Sv.get]) e0 ⟨hR,h,.inl ⟨⟨j,ad,hU.1.1,hU.1.2,hU.2⟩,rfl⟩⟩
   ·refine⟨j+1,⟨by omega,aw λg1 g2=>?_⟩,by omega,Le.dE ⟨rfl,by simp(disch:=omega)[bY,Go.Sv.get,aD],ao _,.inl rfl⟩⟩;rw[hu,g1,g2]at hU;have:¬(gt c.high j).at'<(gt c.low j).at':=by simpa using hU.symm
    grind
  ·obtain rfl:j=c.N:=by omega
   simp only[tT,tH,tS,ayb,aAf];simp(disch:=omega)[];repeat refine awG ?_
   refine⟨_,⟨λk hk g1 g2=>hq k hk g1 g2,rfl⟩,?_⟩;exact⟨rfl,by simp[bY,Go.Sv.get],ao _,.inl rfl⟩
theorem amn{c:Tc}{K:(Nat->Rat)->Prop}{s:Tb}(hc:qe c)(hw:BN c)(hb:HB c)(hW:HW c K)(hN:c.n+c.m=c.N)(h:fm c K s){C:Ctx}(fx:∀k∈C.fx,k<c.m+6)
  (hn:∀s1,fm c K s1->mr c s1->aa ay9 C (bh 3 cL) ⟨161,[(0,.ptr 0 0 0),(2,.ptr (c.m+6) 0 0)],tT c s1 [some ⟨8,[dD 0],false⟩]⟩ (Gs C c K s)) :
  aa ay9 C (bh 2 cL) ⟨161,[(0,.ptr 0 0 0),(2,.ptr (c.m+6) 0 0)],tT c s [some ⟨8,[dD 0],false⟩]⟩ (Gs C c K s):=by
 have h7:=hc.m7;have h0:=h.t.R;refine aa.cutAt 1 (λst=>∃s1,fm c K s1∧mr c s1∧st=⟨161,[(0,.ptr 0 0 0),(2,.ptr (c.m+6) 0 0)],tT c s1 [some ⟨8,[dD 0],false⟩]⟩) ?_ ?_
 rotate_left 1
 ·rintro st ⟨s1,h1,h2,rfl⟩;have:=hn s1 h1 h2;simp only[cL,aCi,ayj,ah,ab]at this ⊢;exact this
 clear hn;simp only[cL,aCi,ayj,ah,ab,aN,aL];simp only[tT,tH,tS,dD,ayb,aAf];simp(disch:=omega)[];repeat refine awG ?_
 refine ek (tl:=[_]) (EW c K hc hw hb hW s h) h0 (by simp) (by simp) ?_;rintro T1 y ⟨s1,rfl,hR,h1,h2⟩;rcases h2 with⟨rfl,h2⟩ | ⟨i,ac,rfl,h2⟩
 ·refine⟨s1,rfl,hR,by simp,?_⟩;simp only[tT,tH,tS,ayb,aAf];simp(disch:=omega)[];repeat refine awG ?_
  refine⟨_,⟨s1,h1,h2,rfl⟩,?_⟩;exact⟨rfl,by simp[bY,Go.Sv.get],ao _,.inl rfl⟩
 ·refine⟨s1,rfl,hR,by simp,?_⟩;simp only[tT,tH,tS,ayb,aAf];simp(disch:=omega)[];repeat refine awG ?_
  refine ek (tl:=[_]) (ME c s1 h1.t hc hN h2.1 ac) hR (by simp) (by simp) ?_;rintro T1 y ⟨rfl,rfl⟩;refine⟨s1,rfl,hR,by simp,?_⟩;simp only[tT,tH,tS,ayb,aAf];simp[cN hR,cV hR];have e0:ig (lS ⟨2,[],(ayq c.m).map (BP c s1 i ac),[],0⟩)=lS ⟨2,[],(ayq c.m).map (BP c s1 i ac),[],0⟩:=rfl;exact GO (s:=s1) (v:=lS ⟨2,[],(ayq c.m).map (BP c s1 i ac),[],0⟩) (tl:=[]) h0 fx (by simp[Aa,Go.Sv.get]) e0 ⟨hR,h1,.inr (.inl ⟨hb,i,ac,h2,rfl⟩)⟩
def ClI(c:Tc)(K:(Nat->Rat)->Prop)(st:St):Prop:=∃s1 j up ok,fm c K s1∧mr c s1∧((j=0∧up=false∧ok=true∧EU c s1)∨(ok=false∧sJ c s1 j up))∧st=⟨161,[(0,.ptr 0 0 0),(2,.ptr (c.m+6) 0 0),(7,iv (j:Nat)),(8,dr up),(9,dr ok)],tT c s1 [some ⟨8,[dD 0],false⟩]⟩
theorem alr{c:Tc}{K:(Nat->Rat)->Prop}{s0 s:Tb}(hc:qe c)(hw:BN c)(hb:HB c)(hW:HW c K)(hV:Wd 2200 c.cost)(hN:c.n+c.m=c.N)(h:fm c K s)(hf:mr c s){C:Ctx}(fx:∀k∈C.fx,k<c.m+6)
  (am:∀s1,fm c K s1->mr c s1->EU c s1->aa ay9 C (bh 5 cL) ⟨161,[(0,.ptr 0 0 0),(2,.ptr (c.m+6) 0 0),(7,iv 0),(8,dr false),(9,dr true),(10,.ro ((s1.x.take c.n).map aS))],tT c s1 [some ⟨8,[dD 0],false⟩]⟩ (Gs C c K s0))
  (an:∀s1 (j:Nat) up,fm c K s1->mr c s1->sJ c s1 j up->aa ay9 C (bh 5 cL) ⟨161,[(0,.ptr 0 0 0),(2,.ptr (c.m+6) 0 0),(7,iv j),(8,dr up),(9,dr false),(10,.ro ((s1.x.take c.n).map aS))],tT c s1 [some ⟨8,[dD 0],false⟩]⟩ (Gs C c K s0)) :
  aa ay9 C (bh 3 cL) ⟨161,[(0,.ptr 0 0 0),(2,.ptr (c.m+6) 0 0)],tT c s [some ⟨8,[dD 0],false⟩]⟩ (Gs C c K s0):=by
 have h7:=hc.m7;have h0:=h.t.R;have af:=hc.ur;refine aa.cutAt 1 (ClI c K) ?_ ?_
 ·clear am an;simp only[cL,aCi,ayj,ah,ab,aN,aL];simp only[tT,tH,tS,dD,ayb,aAf];simp(disch:=omega)[];repeat refine awG ?_
  refine ek (tl:=[_]) (IX c K hc hw hb hW hV s h hf) h0 (by simp) (by simp) ?_;rintro T1 y ⟨s1,rfl,hR,h1,h2,h3⟩;refine⟨s1,rfl,hR,by rcases h3 with⟨rfl,_⟩ | ⟨j,up,rfl,_⟩<;>simp[SV.lt],?_⟩;simp only[tT,tH,tS,ayb,aAf];rcases h3 with⟨rfl,h3⟩ | ⟨j,up,rfl,h3⟩
  ·simp(disch:=omega)[];repeat refine awG ?_
   refine⟨_,⟨s1,0,false,true,h1,h2,.inl ⟨rfl,rfl,rfl,h3⟩,rfl⟩,?_⟩;exact⟨rfl,by simp[bY,Go.Sv.get],ao _,.inl rfl⟩
  ·simp(disch:=omega)[];repeat refine awG ?_
   refine⟨_,⟨s1,j,up,false,h1,h2,.inr ⟨rfl,h3⟩,rfl⟩,?_⟩;exact⟨rfl,by simp[bY,Go.Sv.get],ao _,.inl rfl⟩
 ·rintro st ⟨s1,j,up,ok,h1,h2,h3,rfl⟩;have hR:=h1.t.R;have hx:=h1.t.x;have fin:aa ay9 C (bh 5 cL) ⟨161,[(0,.ptr 0 0 0),(2,.ptr (c.m+6) 0 0),(7,iv (j:Nat)),(8,dr up),(9,dr ok),(10,.ro ((s1.x.take c.n).map aS))],tT c s1 [some ⟨8,[dD 0],false⟩]⟩ (Gs C c K s0):=by
   rcases h3 with⟨rfl,rfl,rfl,h3⟩ | ⟨rfl,h3⟩
   ·exact am s1 h1 h2 h3
   ·exact an s1 j up h1 h2 h3
  clear am an h3;refine aa.cutAt 1 (λst=>st=⟨161,[(0,.ptr 0 0 0),(2,.ptr (c.m+6) 0 0),(7,iv (j:Nat)),(8,dr up),(9,dr ok),(10,.view (c.m+7) 0 c.n)],tT c s1 [some ⟨8,[dD 0],false⟩,some ⟨4,(s1.x.take c.n).map aS,false⟩]⟩) ?_ ?_
  ·clear fin;simp only[cL,aCi,ayj,ah,ab,aN,aL];simp only[tT,tH,tS,dD,ayb,aAf];refine aa.draw (.qs [0,1,2,3,4,5,6,7,8]<|.l 9 [1000000]<|.qs [10]<|.nil) (by kernel_rfl) (by kernel_rfl) (by simp[AA]) ?_;have ub:=N3 (N:=c.N) (m:=c.m) (k:=c.m+1+1+1+1+1+1+1) (by omega);have tt:∀y,y∈aBA c.n (s1.x.map aS)->y.aW=false:=λy hy=>by
    obtain⟨q,_,rfl⟩:=List.mem_map.1 (List.mem_of_mem_take hy);rfl
   simp(disch:=omega)[hR,hx,ub,qa,sc];refine awG ?_;refine And.intro (And.intro (by omega) (And.intro tt (by omega))) ?_;exact⟨rfl,by simp[bY,Go.Sv.get],ao _,.inl rfl⟩
  ·rintro st rfl;have ax:=DM (C:=C) (c:=c) (s:=s1) (N0:=161) (fr:=[(0,.ptr 0 0 0),(2,.ptr (c.m+6) 0 0),(7,iv (j:Nat)),(8,dr up),(9,dr ok),(10,.view (c.m+7) 0 c.n)]) (tl:=[some ⟨8,[dD 0],false⟩,some ⟨4,(s1.x.take c.n).map aS,false⟩]) hR 1 (e:=⟨4,(s1.x.take c.n).map aS,false⟩) rfl (by simp);have n2:c.m+7=c.m+6+1:=by omega
   have tk:aBA c.n ((s1.x.take c.n).map aS)=(s1.x.take c.n).map aS:=aAp (by rw[List.length_map,aAc];omega);have hl:c.n<=(s1.x.take c.n).length:=by rw[aAc,hx];omega
   have ay:Le C ⟨161,HJ (c.m+6+1) ((s1.x.take c.n).map aS) [(0,.ptr 0 0 0),(2,.ptr (c.m+6) 0 0),(7,iv (j:Nat)),(8,dr up),(9,dr ok),(10,.view (c.m+7) 0 c.n)],tT c s1 (yy (c.m+6+1) ((s1.x.take c.n).map aS) (aX [some ⟨8,[dD 0],false⟩,some ⟨4,(s1.x.take c.n).map aS,false⟩] 1 (some ⟨4,(s1.x.take c.n).map aS,true⟩)))⟩ ⟨161,[(0,.ptr 0 0 0),(2,.ptr (c.m+6) 0 0),(7,iv (j:Nat)),(8,dr up),(9,dr ok),(10,.ro ((s1.x.take c.n).map aS))],tT c s1 [some ⟨8,[dD 0],false⟩]⟩:=by exact Le.dE (tF s1 hR fx (by simp[bY,Go.Sv.get,n2,hx,show c.n<=c.N by omega,List.take_take]) (by simp[aX,fj,dD]) (by simp[gK,SV.lt]) (by simp[eA,dD,SV.lt]))
   have:=aa.le (ax.trans ay) fin;simp only[cL,aCi,ayj,ah,ab]at this ⊢;exact this
end Go.Proofs
set_option maxRecDepth 10000
namespace Go.Proofs
open Go.Sv Go Go.Tb Go.Pl Go.Ut Go.Mx Go.Li Go.Dt Go.Sx
theorem anr{c:Tc}{K:(Nat->Rat)->Prop}{s0 s:Tb}(hc:qe c)(hw:BN c)(hb:HB c)(hW:HW c K)(hV:Wd 2200 c.cost)(hN:c.n+c.m=c.N)(n7:c.n<=7)(ap:BF c.p)(pw:cW c.p)(hv:bA c.p=0)(hp:c.p.ai.length=c.n)(h0:s0.R.length=c.m)(h:fm c K s)(hf:mr c s)(az:EU c s){C:Ctx}(fx:∀k∈C.fx,k<c.m+6) :
  aa ay9 C (bh 5 cL) ⟨161,[(0,.ptr 0 0 0),(2,.ptr (c.m+6) 0 0),(7,iv 0),(8,dr false),(9,dr true),(10,.ro ((s.x.take c.n).map aS))],tT c s [some ⟨8,[dD 0],false⟩]⟩ (Gs C c K s0):=by
 have h7:=hc.m7;have hR:=h.t.R;have hx:=h.t.x;have xl:(s.x.take c.n).length=c.p.ai.length:=by rw[aAc,hx,hp];omega
 have xw:Wd 1203140408 (s.x.take c.n):=λj hj=>by
  have hj:j<c.n:=by rw[aAc]at hj;omega
  have:=Qf hw hW h hN n7 (k:=j) (by omega);have e:gt (s.x.take c.n) j=gt s.x j:=by simp[gt,hj]
  rw[e];exact this
 have val:=Ih c.p ap pw hv (s.x.take c.n) xw xl (by omega) (by omega);rw[hp]at val;have pr:=GF c K hc hW hV hN s h;have fin:qy c K s ⟨1,s.x.take c.n,(ayq c.m).map (vP c s),[],gO c.p (s.x.take c.n) c.n⟩:=⟨hR,h,.inr (.inr (.inl ⟨hb,hf,az,rfl⟩))⟩;have e0:∀(x y:List Rat) (q:Rat),ig (.agg (iv 1::.ro (x.map aS)::.ro (y.map aS)::.val (.slice none 0 0)::(aS q).cells))=lS ⟨1,x,y,[],q⟩:=λx y q=>rfl;generalize s.x.take c.n=X at *;generalize gO c.p X c.n=v at *;generalize (ayq c.m).map (vP c s)=Y at *;simp only[cL,aCi,ayj,ah,ab];simp only[tT,tH,tS,dD,ayb,aAf];refine aa.go ?_;simp(disch:=omega)[];repeat refine awG ?_
 refine awI (val) ?_;simp(disch:=omega)[hR,eP hR,eQ hR];repeat refine awG ?_
 refine aa.draw (.qs [0,1]<|.m 2 [1000000,0,1,2,3,4,5,6,7,8,9,10,11,12] (.l 3 []<|.qs [4]<|.l 5 [c.m+6]<|.nil) 3 [] (.l 2 [1000000,0,1,2,3,4,5,6,7,8,9,10,11,12]<|.qs [4]<|.l 5 [c.m+6]<|.nil)) (by kernel_rfl) (by kernel_rfl) (by simp[AA]) ?_;simp[cN hR,eP hR,xI,xd];constructor
 ·refine ek (tl:=[_,_]) pr hR (by simp) (by intro ks e k hk;cases e;simp;omega) ?_;rintro T1 y ⟨rfl,rfl⟩;refine⟨s,rfl,hR,by simp,?_⟩;simp only[tT,tH,tS,ayb,aAf];simp[cN hR,cV hR,eP hR,xI,xd];exact GO (s:=s) (v:=.agg (iv 1::.ro (X.map aS)::.ro (Y.map aS)::.val (.slice none 0 0)::(aS v).cells)) (tl:=[_]) h0 fx (by simp[Aa,Go.Sv.get]) (e0 X Y v) fin
 ·refine ek (tl:=[_,_]) pr hR (by simp) (by intro ks e k hk;cases e;simp;omega) ?_;rintro T1 y ⟨rfl,rfl⟩;refine⟨s,rfl,hR,by simp,?_⟩;simp only[tT,tH,tS,ayb,aAf];simp[cN hR,cV hR];exact GO (s:=s) (v:=.agg (iv 1::.ro (X.map aS)::.ro (Y.map aS)::.val (.slice none 0 0)::(aS v).cells)) (tl:=[_]) h0 fx (by simp[Aa,Go.Sv.get]) (e0 X Y v) fin
end Go.Proofs
set_option maxRecDepth 10000
namespace Go.Proofs
open Go.Sv Go Go.Tb Go.Pl Go.Ut Go.Mx Go.Li Go.Dt Go.Sx
def BY(m N:Nat)(j:Nat)(X:List Rat):List (Nat × SV):=[(0,.ptr 0 0 0),(2,.ptr (m+6) 0 0),(7,iv j),(10,.ro (X.map aS)),(13,.ptr (m+7) 0 0),(14,.view (m+8) 0 N)]
def Jb(z:kB)(y:Rat)(L:List Rat):aC:=[some ⟨8,[lS z],false⟩,some ⟨4,[aS y],false⟩,some ⟨4,L.map aS,false⟩]
theorem ak1{c:Tc}{K:(Nat->Rat)->Prop}{s0 s:Tb}(hc:qe c)(hN:c.n+c.m=c.N)(h:fm c K s){j:Nat}(up:Bool){X:List Rat}{C:Ctx}(fx:∀k∈C.fx,k<c.m+6)
  (hn:aa ay9 C (bh 9 cL) ⟨161,BY c.m c.N j X,tT c s (Jb jq (yD up 1) (awQ c.N 0))⟩ (Gs C c K s0)) :
  aa ay9 C (bh 5 cL) ⟨161,[(0,.ptr 0 0 0),(2,.ptr (c.m+6) 0 0),(7,iv j),(8,dr up),(9,dr false),(10,.ro (X.map aS))],tT c s [some ⟨8,[dD 0],false⟩]⟩ (Gs C c K s0):=by
 have h7:=hc.m7;have af:=hc.ur;have hR:=h.t.R;refine aa.cutAt 4 (λst=>st=⟨161,BY c.m c.N j X,tT c s [some ⟨8,[dD 0],false⟩,some ⟨4,[aS (yD up 1)],false⟩,some ⟨4,awQ c.N (.agg [.val (.bool false),.val (.slice none 0 0),.val (.bool false),.val (.slice none 0 0)]),false⟩]⟩) ?_ ?_
 rotate_left 1
 ·rintro st rfl;have z0:ig (.agg [.val (.bool false),.val (.slice none 0 0),.val (.bool false),.val (.slice none 0 0)])=aS 0:=by rw[<-ou];rfl
  have e4:ig (dD 0)=lS jq:=by have:lS jq=.agg (iv 0::.ro []::.ro []::.ro []::(aS 0).cells):=rfl;rw[this,<-ou];rfl
  have:=aa.le (tD (C:=C) (c:=c) (N0:=161) (fr:=BY c.m c.N j X) (fr':=BY c.m c.N j X) (tl:=[some ⟨8,[dD 0],false⟩,some ⟨4,[aS (yD up 1)],false⟩,some ⟨4,awQ c.N (.agg [.val (.bool false),.val (.slice none 0 0),.val (.bool false),.val (.slice none 0 0)]),false⟩]) (tl':=Jb jq (yD up 1) (awQ c.N 0)) s hR fx (by simp[bY,Go.Sv.get,BY,Aa]) (by simp[Jb,p9,z0,e4]) (by simp[gK,BY,Jb,SV.lt]) (by simp[Jb,eA,-List.map_replicate])) hn;simp only[cL,aCi,ayj,ah,ab]at this ⊢;exact this
 clear hn;simp only[cL,aCi,ayj,ah,ab,aN,aL];simp only[tT,tH,tS,dD,ayb,aAf];have one:=Du 1 (by omega) (by omega);rw[show((1:Int):Rat)=1 from rfl]at one;simp(disch:=omega)[];repeat refine awG ?_
 refine awI (one) ?_;cases up with
 | true =>
  simp(disch:=omega)[hR,eP hR,eQ hR];repeat refine awG ?_
  refine aa.draw (.qs [0,1,2,3,4,5,6,7,8]<|.l 9 []<|.qs [10]<|.nil) (by kernel_rfl) (by kernel_rfl) (by simp[AA]) ?_;simp(disch:=omega)[hR,aD];repeat refine awG ?_
  have y1:yD true 1=1:=if_pos rfl;rw[y1];simp only[hN];exact⟨rfl,by simp[bY,Go.Sv.get,BY],xq c s (ao _),.inl (by simp)⟩
 | false =>
  simp(disch:=omega)[hR,eP hR,eQ hR];repeat refine awG ?_
  refine awI (jK 1) ?_;simp(disch:=omega)[eP hR,eQ hR];repeat refine awG ?_
  refine aa.draw (.qs [0,1,2,3,4,5,6,7,8]<|.l 9 []<|.qs [10]<|.nil) (by kernel_rfl) (by kernel_rfl) (by simp[AA]) ?_;simp(disch:=omega)[hR,aD];repeat refine awG ?_
  have y1:yD false 1 = -1:=if_neg (by simp);rw[y1];simp only[hN];exact⟨rfl,by simp[bY,Go.Sv.get,BY],xq c s (ao _),.inl (by simp)⟩
theorem ang{c:Tc}{K:(Nat->Rat)->Prop}{s0 s:Tb}(hc:qe c)(hW:HW c K)(h:fm c K s){j:Nat}(hj:j<c.N){y:Rat}(hy:qw 1 y){X:List Rat}{C:Ctx}(fx:∀k∈C.fx,k<c.m+6)
  (hn:aa ay9 C (bh 11 cL) ⟨161,BY c.m c.N j X,tT c s (Jb jq y (gW c s j y c.m))⟩ (Gs C c K s0)) :
  aa ay9 C (bh 9 cL) ⟨161,BY c.m c.N j X,tT c s (Jb jq y (awQ c.N 0))⟩ (Gs C c K s0):=by
 have h7:=hc.m7;have af:=hc.ur;have hR:=h.t.R;have hb:=h.t.b;refine aa.cutAt 2 (λst=>st=⟨161,BY c.m c.N j X,tT c s (Jb jq y (gW c s j y c.m))⟩) ?_ ?_
 rotate_left 1
 ·rintro st rfl;simp only[cL,aCi,ayj,ah,ab]at hn ⊢;exact hn
 clear hn;have l0:aM ((awQ c.N (0:Rat)).map aS) j=aS 0:=by rw[ch (by simpa using hj)];simp[gt,hj]
 have ar:(awQ c.N (0:Rat)).length=c.N:=by simp
 have r0:(awQ c.N (0:Rat)).set j y=gW c s j y 0:=rfl;generalize awQ c.N (0:Rat)=Z at *;simp only[cL,aCi,ayj,ah,ab,aN,aL];simp only[tT,tH,tS,BY,Jb,ayb,aAf];simp(disch:=omega)[eP hR,eQ hR,hj,ar,l0,cx, -aAq];repeat refine awG ?_
 rw[r0];refine aa.bB (ι:=Nat) (λi=>⟨161,BY c.m c.N j X++[(130,.view 5 0 c.m),(131,iv c.m),(132,iv i)],tT c s (Jb jq y (gW c s j y i))⟩)
  (λi=>i<=c.m) (λi=>c.m - i) 0 (by simp) ?_ ?_
 ·exact⟨rfl,by simp[bY,Go.Sv.get,BY],ao _,.inl rfl⟩
 ·rintro i hi;by_cases ae:i<c.m
  ·have au:=gM (N:=c.N) (m:=c.m) (i:=i) ae;have tg:=λtl:aC=>fE (C:=s.R) (tl:=tl) (e:=i) (by omega);have Ri:=h.t.Rr i ae;have aA:=h.t.bb i ae;have lj:=ch (l:=gt s.R i) (i:=j) (by omega);have aB:=fI (l:=s.basic) (i:=i) (by omega);have qR:=hW _ _ h.d h.t.Rr i ae j (by omega);have rl:=kP c s j y i;have rx:gW c s j y (i+1)=(gW c s j y i).set (gt s.basic i) (gt (gt s.R i) j*y):=rfl;generalize gW c s j y i=L at *;have lL:=ch (l:=L) (i:=gt s.basic i) (by omega);simp only[tT,tH,tS,BY,Jb,ayb,aAf];simp(disch:=omega)[ae,au];repeat refine awG ?_
   refine aa.draw (.qs [0,1,2,3,4,5,6,7,8,9,10,11,12]<|.l 13 []<|.qs [14]<|.l 15 [c.m+8]<|.nil) (by kernel_rfl) (by kernel_rfl) (by simp[AA]) ?_;simp(disch:=omega)[eP hR,ae,tg,Ri,lj,hj,hb,aB];repeat refine awG ?_
   refine awI (pA (gt (gt s.R i) j) y (aq qR (by omega)) (aq hy (by omega))) ?_;simp(disch:=omega)[eP hR,eQ hR,aA,rl,lL,cx,aD, -aAq];repeat refine awG ?_
   refine⟨i+1,by omega,by omega,?_⟩;rw[rx];exact Le.dE ⟨rfl,by simp(disch:=omega)[bY,Go.Sv.get],ao _,.inl rfl⟩
  ·obtain rfl:i=c.m:=by omega
   simp only[tT,tH,tS,BY,Jb,ayb,aAf];simp(disch:=omega)[];repeat refine awG ?_
   exact⟨rfl,by simp[bY,Go.Sv.get],ao _,.inl rfl⟩
theorem anW{c:Tc}{K:(Nat->Rat)->Prop}{s0 s:Tb}(hN:c.n+c.m=c.N)(h0:s0.R.length=c.m)(hR:s.R.length=c.m){j:Nat}{y:Rat}{X L:List Rat}(hL:L.length=c.N)(fin:qy c K s ⟨3,X,[],L.take c.n,0⟩){C:Ctx}(fx:∀k∈C.fx,k<c.m+6) :
  aa ay9 C (bh 11 cL) ⟨161,BY c.m c.N j X,tT c s (Jb jq y L)⟩ (Gs C c K s0):=by
 have h1:=DM (C:=C) (c:=c) (s:=s) (N0:=161) (fr:=BY c.m c.N j X) (tl:=Jb jq y L) hR 2 (e:=⟨4,L.map aS,false⟩) rfl (by simp);refine aa.le h1 ?_;have n1:¬c.m+7=c.m+6+2:=by omega
 have n2:c.m+8=c.m+6+2:=by omega
 have tk:aBA c.N (L.map aS)=L.map aS:=aAp (by simp[hL]);have e0:ig (.agg (iv 3::.ro (X.map aS)::.val (.slice none 0 0)::.ro ((L.take c.n).map aS)::[.val (.bool false),.val (.slice none 0 0),.val (.bool false),.val (.slice none 0 0)]))=lS ⟨3,X,[],L.take c.n,0⟩:=by have:lS ⟨3,X,[],L.take c.n,0⟩=.agg (iv 3::.ro (X.map aS)::.ro []::.ro ((L.take c.n).map aS)::(aS 0).cells):=rfl;rw[this,<-ou];rfl
 have mt:(L.take c.n).map aS=aBA c.n (L.map aS):=List.map_take;simp only[cL,aCi,ayj,ah,ab];simp only[aX,tT,tH,tS,BY,Jb,ayb,aAf];refine aa.go ?_;simp[tk,n2,hL,cN hR,cV hR];refine awG ?_;rw[mt]at e0;exact GO (s:=s) (v:=.agg (iv 3::.ro (X.map aS)::.val (.slice none 0 0)::.ro (aBA c.n (L.map aS))::[.val (.bool false),.val (.slice none 0 0),.val (.bool false),.val (.slice none 0 0)])) (tl:=[_,_]) h0 fx (by simp[Aa,Go.Sv.get]) e0 fin
theorem IC(c:Tc)(K:(Nat->Rat)->Prop)(hc:qe c)(hw:BN c)(hW:HW c K)(hV:Wd 2200 c.cost)(hN:c.n+c.m=c.N)(n7:c.n<=7)(ap:BF c.p)(pw:cW c.p)(hv:bA c.p=0)(hp:c.p.ai.length=c.n)(s:Tb)(h:fm c K s) :
  kZ ay9 78 [.ptr 0 0 0] (tT c s []) [] (ac7 c K):=by
 have hR:=h.t.R;refine iG Tryz.func78 rfl (by simp) (λC hC=>?_);have fx:=qm hR hC;refine aa.wk ?_;show aa _ _ cL _ (Gs C c K s);refine ant hc hw h fx λhb=>amn hc hw hb hW hN h fx λs1 h1 f1=>alr hc hw hb hW hV hN h1 f1 fx (λs2 h2 f2 b2=>?_) λs2 j up h2 f2 b2=>?_
 ·exact anr hc hw hb hW hV hN n7 ap pw hv hp hR h2 f2 b2 fx
 ·have hy:qw 1 (yD up 1):=by
   unfold yD;cases up
   ·have:=fG (n := -1) (by omega) (by omega);simpa using this
   ·have:=fG (n:=1) (by omega) (by omega);simpa using this
  exact ak1 hc hN h2 up fx (ang hc hW h2 b2.1 hy fx (anW hN hR h2.t.R (kP c s2 j (yD up 1) c.m) ⟨h2.t.R,h2,.inr (.inr (.inr ⟨hb,f2,j,up,b2,rfl⟩))⟩ fx))
end Go.Proofs

