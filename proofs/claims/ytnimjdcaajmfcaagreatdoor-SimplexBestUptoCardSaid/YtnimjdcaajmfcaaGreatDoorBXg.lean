/- A text of the prover's own. -/
import Derived.Test.YtnimjdcaajmfcaaGreatDoorBXd
open List renaming replicate->asr,range->ati,cons_append->as8,nil_append->at3,take->avk,take_of_length_le->aud,length_take->auf,map_set->aue
open Go.Proofs.Tryz renaming f78->axz,prog->awW
open Option renaming getD_some->ate
set_option maxRecDepth 10000
set_option maxHeartbeats 400000
namespace Go.Sx
open Go Go.Sv Go.Pl Go.Proofs Go.Tb Go.Ut Go.Mx Go.Li Go.Dt
theorem LO{N m k:Nat}(h:m+6<=k):SV.aZ k (AB N m)=false:=by
 unfold AB;rw[iU,List.any_eq_false];intro i hi;have hi:i<m:=by simpa using hi
 simp[Ru];omega
def Qr(c:Tc):Prop:=∃k,k<c.N∧(gt c.low k).has=true∧(gt c.high k).has=true∧(gt c.high k).at'<(gt c.low k).at'
def gA(c:Tc)(s:Tb)(j:Nat)(y:Rat):Nat->List Rat
 | 0=>(asr c.N 0).set j y
 | i+1=>(gA c s j y i).set (gt s.basic i) (gt (gt s.R i) j*y)
@[simp] theorem j6(c:Tc)(s:Tb)(j:Nat)(y:Rat):∀i,(gA c s j y i).length=c.N
 | 0=>by simp[gA]
 | i+1=>by simp only[gA,List.length_set];exact j6 c s j y i
def rH(c:Tc)(K:(Nat->Rat)->Prop)(s:Tb)(cl:j0):Prop:=s.R.length=c.m∧fo c K s ∧
 (
  (Qr c∧cl=⟨2,[],[],[],0⟩) ∨
  (HB c∧∃(i:Nat) (ac:Bool),Ds c s i ac∧cl=⟨2,[],(ati c.m).map (zZ c s i ac),[],0⟩) ∨
  (HB c∧kW c s∧Cf c s∧cl=⟨1,s.x.take c.n,(ati c.m).map (va c s),[],dX c.p (s.x.take c.n) c.n⟩) ∨
  (HB c∧kW c s∧∃(j:Nat) (up:Bool),qF c s j up∧cl=⟨3,s.x.take c.n,[],(gA c s j (yD up 1) c.m).take c.n,0⟩))
def aaX(c:Tc)(K:(Nat->Rat)->Prop)(T:aD)(v:SV):Prop:=∃s cl,T=tT c s []∧v=mn cl∧rH c K s cl
end Go.Sx
namespace Go.Proofs
open Go.Sv Go Go.Tb Go.Pl Go.Ut Go.Mx Go.Li Go.Dt Go.Sx
noncomputable def cD:Code:=axz.body.getD .skip
def Ec(C:Ctx)(c:Tc)(K:(Nat->Rat)->Prop)(s0:Tb):bf:=WS C (gK awW [.cell 2 80] [] (rn (tT c s0 []) [] (aaX c K)))
theorem xO{C:Ctx}{c:Tc}{K:(Nat->Rat)->Prop}{s0:Tb}:∀l st,¬Ec C c K s0 (.panic l) st:=λl st ⟨st',_,h⟩=>by simp at h
theorem Dk{C:Ctx}{c:Tc}{K:(Nat->Rat)->Prop}{s0 s:Tb}{cl:j0}{fr:List (Nat × SV)}{v:SV}{tl:aD}(h0:s0.R.length=c.m)(fx:∀k∈C.fx,k<c.m+6)(hf:Go.Sv.get (zI fr) 2=some (.ptr (c.m+6) 0 0))(hv:iq v=mn cl)(h:rH c K s cl) :
  Ec C c K s0 .ret ⟨161,fr,tT c s (some ⟨8,[v],false⟩::tl)⟩:=by
 have hR:=h.1;refine⟨⟨161,[(2,.ptr (c.m+6) 0 0)],tT c s [some ⟨8,[mn cl],false⟩]⟩,?_,?_⟩
 ·refine rW s hR fx (by simp[bU,hf]) ?_ (by simp[gz,SV.lt]) (by simp[ee]);have e:rv (some ⟨8,[v],false⟩::tl)=some ⟨8,[mn cl],false⟩::rv tl:=by
   rw[jd];show some (⟨8,iq v::lW [],false⟩:cz)::_=_;rw[hv];rfl
  rw[e];exact⟨.inr rfl,by cases rv tl<;>trivial⟩
 ·simp only[tT,tH,tS,as8,at3];simp[hR,cE hR];exact⟨_,_,⟨s,cl,rfl,rfl,h⟩,rfl,pF c s [some ⟨8,[mn cl],false⟩],by simp[tT,tH,h0,hR],.inr ⟨by simp,pM hR⟩⟩
theorem ajO{c:Tc}{K:(Nat->Rat)->Prop}{s:Tb}(hc:oR c)(hw:zG c)(h:fo c K s){C:Ctx}(fx:∀k∈C.fx,k<c.m+6)
  (hn:HB c->aa awW C (bs 2 cD) ⟨161,[(0,.ptr 0 0 0),(2,.ptr (c.m+6) 0 0)],tT c s [some ⟨8,[db 0],false⟩]⟩ (Ec C c K s)) :
  aa awW C cD ⟨161,[(0,.ptr 0 0 0)],tT c s []⟩ (Ec C c K s):=by
 have h7:=hc.m7;have af:=hc.sq;have hR:=h.t.R;have av:=h.t.x;have ag:=hc.lo;have aj:=hc.hi;have e0:iq (db 2)=mn ⟨2,[],[],[],0⟩:=by have:mn ⟨2,[],[],[],0⟩=.agg (iv 2::.ro []::.ro []::.ro []::(aU 0).cells):=rfl;rw[this,<-tI];rfl
 refine aa.cutAt 2 (λst=>HB c∧st=⟨161,[(0,.ptr 0 0 0),(2,.ptr (c.m+6) 0 0)],tT c s [some ⟨8,[db 0],false⟩]⟩) ?_ ?_
 rotate_left 1
 ·rintro st ⟨hb,rfl⟩;exact hn hb
 clear hn;simp only[cD,axz,ate,aN,aM];simp only[tT,tH,tS,as8,at3];simp(disch:=omega)[hR];repeat refine asi ?_
 refine aa.bM (ι:=Nat) (λj=>⟨161,[(0,.ptr 0 0 0),(2,.ptr (c.m+6) 0 0),(21,iv c.N),(22,iv j)],tT c s [some ⟨8,[db 0],false⟩]⟩)
  (λj=>j<=c.N∧∀k,k<j->(gt c.low k).has=true->(gt c.high k).has=true->(gt c.low k).at'<=(gt c.high k).at') (λj=>c.N - j) 0 ⟨by omega,λk hk=>by omega⟩ ?_ ?_
 ·exact⟨rfl,by simp[bU,Go.Sv.get],aq _,.inl rfl⟩
 ·rintro j ⟨hj,hq⟩;by_cases ad:j<c.N
  ·have ak:aL (c.low.map dh) j=dh (gt c.low j):=cy _ (by omega);have al:aL (c.high.map dh) j=dh (gt c.high j):=cy _ (by omega);have ql:=hw.lo j ad;have qh:=hw.hi j ad;have aw:(∀_:(gt c.low j).has=true,∀_:(gt c.high j).has=true,(gt c.low j).at'<=(gt c.high j).at')->∀k,k<j+1->(gt c.low k).has=true->(gt c.high k).has=true->(gt c.low k).at'<=(gt c.high k).at':=λg k hk=>by
    by_cases e:k=j
    ·rw[e];exact g
    ·exact hq k (by omega)
   simp only[tT,tH,tS,db,as8,at3];simp(disch:=omega)[ad];repeat refine asi ?_
   obtain⟨U,hU⟩:∃U:Bool,U=((gt c.low j).has&&(gt c.high j).has&&decide ((gt c.high j).at'<(gt c.low j).at')):=⟨_,rfl⟩;refine aa.uR (.qs [0,1,2,3,4,5,6,7,8,9,10,11,12,13,14,15,16,17,18,19,20,21,22,23,24,25,26,27,28,29,30,31,32,33,34]<|.l 35 []<|.qs [36,37]<|.nil) ⟨161,[(0,.ptr 0 0 0),(2,.ptr (c.m+6) 0 0),(3,iv j),(21,iv c.N),(22,iv j),(62,cX U)],tT c s [some ⟨8,[db 0],false⟩]⟩ (by kernel_rfl) (by kernel_rfl) ?_ ?_
   ·by_cases u1:(gt c.low j).has=true
    ·by_cases u2:(gt c.high j).has=true
     ·simp(disch:=omega)[ad,ag,aj,ak,al,u1,u2];repeat refine asi ?_
      have cm:=p6 (gt c.low j).at' (gt c.high j).at' (ao ql (by omega)) (ao qh (by omega));have cl:=@yv (gt c.low j).at' (gt c.high j).at';generalize (if(gt c.low j).at'<(gt c.high j).at' then(-1:Int) else if(gt c.high j).at'<(gt c.low j).at' then 1 else 0)=z at *;refine asl (cm) ?_;simp;exact⟨rfl,by simp[bU,Go.Sv.get,hU,u1,u2,cl],aq _,.inl rfl⟩
     ·simp(disch:=omega)[ad,ag,aj,ak,al,u1,u2];repeat refine asi ?_
      exact⟨rfl,by simp[bU,Go.Sv.get,hU,u1,u2],aq _,.inl rfl⟩
    ·simp(disch:=omega)[ad,ag,ak,u1];repeat refine asi ?_
     exact⟨rfl,by simp[bU,Go.Sv.get,hU,u1],aq _,.inl rfl⟩
   simp only[tT,tH,tS,db,as8,at3];simp[cE hR,cP hR];refine⟨λhu=>?_,λhu=>?_⟩
   ·rw[hu]at hU;have hU:((gt c.low j).has=true∧(gt c.high j).has=true)∧(gt c.high j).at'<(gt c.low j).at':=by simpa using hU.symm
    exact Dk (s:=s) (v:=db 2) (tl:=[]) hR fx (by simp[zI,Go.Sv.get]) e0 ⟨hR,h,.inl ⟨⟨j,ad,hU.1.1,hU.1.2,hU.2⟩,rfl⟩⟩
   ·refine⟨j+1,⟨by omega,aw λg1 g2=>?_⟩,by omega,Le.fm ⟨rfl,by simp(disch:=omega)[bU,Go.Sv.get,aK],aq _,.inl rfl⟩⟩;rw[hu,g1,g2]at hU;have:¬(gt c.high j).at'<(gt c.low j).at':=by simpa using hU.symm
    grind
  ·obtain rfl:j=c.N:=by omega
   simp only[tT,tH,tS,as8,at3];simp(disch:=omega)[];repeat refine asi ?_
   refine⟨_,⟨λk hk g1 g2=>hq k hk g1 g2,rfl⟩,?_⟩;exact⟨rfl,by simp[bU,Go.Sv.get],aq _,.inl rfl⟩
theorem aha{c:Tc}{K:(Nat->Rat)->Prop}{s:Tb}(hc:oR c)(hw:zG c)(hb:HB c)(hW:HW c K)(hN:c.n+c.m=c.N)(h:fo c K s){C:Ctx}(fx:∀k∈C.fx,k<c.m+6)
  (hn:∀s1,fo c K s1->kW c s1->aa awW C (bs 3 cD) ⟨161,[(0,.ptr 0 0 0),(2,.ptr (c.m+6) 0 0)],tT c s1 [some ⟨8,[db 0],false⟩]⟩ (Ec C c K s)) :
  aa awW C (bs 2 cD) ⟨161,[(0,.ptr 0 0 0),(2,.ptr (c.m+6) 0 0)],tT c s [some ⟨8,[db 0],false⟩]⟩ (Ec C c K s):=by
 have h7:=hc.m7;have h0:=h.t.R;refine aa.cutAt 1 (λst=>∃s1,fo c K s1∧kW c s1∧st=⟨161,[(0,.ptr 0 0 0),(2,.ptr (c.m+6) 0 0)],tT c s1 [some ⟨8,[db 0],false⟩]⟩) ?_ ?_
 rotate_left 1
 ·rintro st ⟨s1,h1,h2,rfl⟩;have:=hn s1 h1 h2;simp only[cD,axz,ate,ai,ah]at this ⊢;exact this
 clear hn;simp only[cD,axz,ate,ai,ah,aN,aM];simp only[tT,tH,tS,db,as8,at3];simp(disch:=omega)[];repeat refine asi ?_
 refine dS (tl:=[_]) (CD c K hc hw hb hW s h) h0 (by simp) (by simp) ?_;rintro T1 y ⟨s1,rfl,hR,h1,h2⟩;rcases h2 with⟨rfl,h2⟩ | ⟨i,ac,rfl,h2⟩
 ·refine⟨s1,rfl,hR,by simp,?_⟩;simp only[tT,tH,tS,as8,at3];simp(disch:=omega)[];repeat refine asi ?_
  refine⟨_,⟨s1,h1,h2,rfl⟩,?_⟩;exact⟨rfl,by simp[bU,Go.Sv.get],aq _,.inl rfl⟩
 ·refine⟨s1,rfl,hR,by simp,?_⟩;simp only[tT,tH,tS,as8,at3];simp(disch:=omega)[];repeat refine asi ?_
  refine dS (tl:=[_]) (J0 c s1 h1.t hc hN h2.1 ac) hR (by simp) (by simp) ?_;rintro T1 y ⟨rfl,rfl⟩;refine⟨s1,rfl,hR,by simp,?_⟩;simp only[tT,tH,tS,as8,at3];simp[cE hR,cP hR];have e0:iq (mn ⟨2,[],(ati c.m).map (zZ c s1 i ac),[],0⟩)=mn ⟨2,[],(ati c.m).map (zZ c s1 i ac),[],0⟩:=rfl;exact Dk (s:=s1) (v:=mn ⟨2,[],(ati c.m).map (zZ c s1 i ac),[],0⟩) (tl:=[]) h0 fx (by simp[zI,Go.Sv.get]) e0 ⟨hR,h1,.inr (.inl ⟨hb,i,ac,h2,rfl⟩)⟩
def ClI(c:Tc)(K:(Nat->Rat)->Prop)(st:St):Prop:=∃s1 j up ok,fo c K s1∧kW c s1∧((j=0∧up=false∧ok=true∧Cf c s1)∨(ok=false∧qF c s1 j up))∧st=⟨161,[(0,.ptr 0 0 0),(2,.ptr (c.m+6) 0 0),(7,iv (j:Nat)),(8,cX up),(9,cX ok)],tT c s1 [some ⟨8,[db 0],false⟩]⟩
theorem akp{c:Tc}{K:(Nat->Rat)->Prop}{s0 s:Tb}(hc:oR c)(hw:zG c)(hb:HB c)(hW:HW c K)(hV:Wd 2200 c.cost)(hN:c.n+c.m=c.N)(h:fo c K s)(hf:kW c s){C:Ctx}(fx:∀k∈C.fx,k<c.m+6)
  (am:∀s1,fo c K s1->kW c s1->Cf c s1->aa awW C (bs 5 cD) ⟨161,[(0,.ptr 0 0 0),(2,.ptr (c.m+6) 0 0),(7,iv 0),(8,cX false),(9,cX true),(10,.ro ((s1.x.take c.n).map aU))],tT c s1 [some ⟨8,[db 0],false⟩]⟩ (Ec C c K s0))
  (an:∀s1 (j:Nat) up,fo c K s1->kW c s1->qF c s1 j up->aa awW C (bs 5 cD) ⟨161,[(0,.ptr 0 0 0),(2,.ptr (c.m+6) 0 0),(7,iv j),(8,cX up),(9,cX false),(10,.ro ((s1.x.take c.n).map aU))],tT c s1 [some ⟨8,[db 0],false⟩]⟩ (Ec C c K s0)) :
  aa awW C (bs 3 cD) ⟨161,[(0,.ptr 0 0 0),(2,.ptr (c.m+6) 0 0)],tT c s [some ⟨8,[db 0],false⟩]⟩ (Ec C c K s0):=by
 have h7:=hc.m7;have h0:=h.t.R;have af:=hc.sq;refine aa.cutAt 1 (ClI c K) ?_ ?_
 ·clear am an;simp only[cD,axz,ate,ai,ah,aN,aM];simp only[tT,tH,tS,db,as8,at3];simp(disch:=omega)[];repeat refine asi ?_
  refine dS (tl:=[_]) (Gk c K hc hw hb hW hV s h hf) h0 (by simp) (by simp) ?_;rintro T1 y ⟨s1,rfl,hR,h1,h2,h3⟩;refine⟨s1,rfl,hR,by rcases h3 with⟨rfl,_⟩ | ⟨j,up,rfl,_⟩<;>simp[SV.lt],?_⟩;simp only[tT,tH,tS,as8,at3];rcases h3 with⟨rfl,h3⟩ | ⟨j,up,rfl,h3⟩
  ·simp(disch:=omega)[];repeat refine asi ?_
   refine⟨_,⟨s1,0,false,true,h1,h2,.inl ⟨rfl,rfl,rfl,h3⟩,rfl⟩,?_⟩;exact⟨rfl,by simp[bU,Go.Sv.get],aq _,.inl rfl⟩
  ·simp(disch:=omega)[];repeat refine asi ?_
   refine⟨_,⟨s1,j,up,false,h1,h2,.inr ⟨rfl,h3⟩,rfl⟩,?_⟩;exact⟨rfl,by simp[bU,Go.Sv.get],aq _,.inl rfl⟩
 ·rintro st ⟨s1,j,up,ok,h1,h2,h3,rfl⟩;have hR:=h1.t.R;have hx:=h1.t.x;have fin:aa awW C (bs 5 cD) ⟨161,[(0,.ptr 0 0 0),(2,.ptr (c.m+6) 0 0),(7,iv (j:Nat)),(8,cX up),(9,cX ok),(10,.ro ((s1.x.take c.n).map aU))],tT c s1 [some ⟨8,[db 0],false⟩]⟩ (Ec C c K s0):=by
   rcases h3 with⟨rfl,rfl,rfl,h3⟩ | ⟨rfl,h3⟩
   ·exact am s1 h1 h2 h3
   ·exact an s1 j up h1 h2 h3
  clear am an h3;refine aa.cutAt 1 (λst=>st=⟨161,[(0,.ptr 0 0 0),(2,.ptr (c.m+6) 0 0),(7,iv (j:Nat)),(8,cX up),(9,cX ok),(10,.view (c.m+7) 0 c.n)],tT c s1 [some ⟨8,[db 0],false⟩,some ⟨4,(s1.x.take c.n).map aU,false⟩]⟩) ?_ ?_
  ·clear fin;simp only[cD,axz,ate,ai,ah,aN,aM];simp only[tT,tH,tS,db,as8,at3];refine aa.draw (.qs [0,1,2,3,4,5,6,7,8]<|.l 9 [1000000]<|.qs [10]<|.nil) (by kernel_rfl) (by kernel_rfl) (by simp[xO]) ?_;have ub:=LO (N:=c.N) (m:=c.m) (k:=c.m+1+1+1+1+1+1+1) (by omega);have tt:∀y,y∈avk c.n (s1.x.map aU)->y.aV=false:=λy hy=>by
    obtain⟨q,_,rfl⟩:=List.mem_map.1 (List.mem_of_mem_take hy);rfl
   simp(disch:=omega)[hR,hx,ub,nQ,pY];refine asi ?_;refine And.intro (And.intro (by omega) (And.intro tt (by omega))) ?_;exact⟨rfl,by simp[bU,Go.Sv.get],aq _,.inl rfl⟩
  ·rintro st rfl;have ax:=Ce (C:=C) (c:=c) (s:=s1) (N0:=161) (fr:=[(0,.ptr 0 0 0),(2,.ptr (c.m+6) 0 0),(7,iv (j:Nat)),(8,cX up),(9,cX ok),(10,.view (c.m+7) 0 c.n)]) (tl:=[some ⟨8,[db 0],false⟩,some ⟨4,(s1.x.take c.n).map aU,false⟩]) hR 1 (e:=⟨4,(s1.x.take c.n).map aU,false⟩) rfl (by simp);have n2:c.m+7=c.m+6+1:=by omega
   have tk:avk c.n ((s1.x.take c.n).map aU)=(s1.x.take c.n).map aU:=aud (by rw[List.length_map,auf];omega);have hl:c.n<=(s1.x.take c.n).length:=by rw[auf,hx];omega
   have ay:Le C ⟨161,Fy (c.m+6+1) ((s1.x.take c.n).map aU) [(0,.ptr 0 0 0),(2,.ptr (c.m+6) 0 0),(7,iv (j:Nat)),(8,cX up),(9,cX ok),(10,.view (c.m+7) 0 c.n)],tT c s1 (wg (c.m+6+1) ((s1.x.take c.n).map aU) (aX [some ⟨8,[db 0],false⟩,some ⟨4,(s1.x.take c.n).map aU,false⟩] 1 (some ⟨4,(s1.x.take c.n).map aU,true⟩)))⟩ ⟨161,[(0,.ptr 0 0 0),(2,.ptr (c.m+6) 0 0),(7,iv (j:Nat)),(8,cX up),(9,cX ok),(10,.ro ((s1.x.take c.n).map aU))],tT c s1 [some ⟨8,[db 0],false⟩]⟩:=by exact Le.fm (r9 s1 hR fx (by simp[bU,Go.Sv.get,n2,hx,show c.n<=c.N by omega,List.take_take]) (by simp[aX,fI,db]) (by simp[gz,SV.lt]) (by simp[ee,db,SV.lt]))
   have:=aa.le (ax.trans ay) fin;simp only[cD,axz,ate,ai,ah]at this ⊢;exact this
end Go.Proofs
set_option maxRecDepth 10000
namespace Go.Proofs
open Go.Sv Go Go.Tb Go.Pl Go.Ut Go.Mx Go.Li Go.Dt Go.Sx
theorem ajT{c:Tc}{K:(Nat->Rat)->Prop}{s0 s:Tb}(hc:oR c)(hw:zG c)(hb:HB c)(hW:HW c K)(hV:Wd 2200 c.cost)(hN:c.n+c.m=c.N)(n7:c.n<=7)(ap:As c.p)(pw:cT c.p)(hv:bh c.p=0)(hp:c.p.ab.length=c.n)(h0:s0.R.length=c.m)(h:fo c K s)(hf:kW c s)(az:Cf c s){C:Ctx}(fx:∀k∈C.fx,k<c.m+6) :
  aa awW C (bs 5 cD) ⟨161,[(0,.ptr 0 0 0),(2,.ptr (c.m+6) 0 0),(7,iv 0),(8,cX false),(9,cX true),(10,.ro ((s.x.take c.n).map aU))],tT c s [some ⟨8,[db 0],false⟩]⟩ (Ec C c K s0):=by
 have h7:=hc.m7;have hR:=h.t.R;have hx:=h.t.x;have xl:(s.x.take c.n).length=c.p.ab.length:=by rw[auf,hx,hp];omega
 have xw:Wd 1203140408 (s.x.take c.n):=λj hj=>by
  have hj:j<c.n:=by rw[auf]at hj;omega
  have:=Kv hw hW h hN n7 (k:=j) (by omega);have e:gt (s.x.take c.n) j=gt s.x j:=by simp[gt,hj]
  rw[e];exact this
 have val:=GR c.p ap pw hv (s.x.take c.n) xw xl (by omega) (by omega);rw[hp]at val;have pr:=EP c K hc hW hV hN s h;have fin:rH c K s ⟨1,s.x.take c.n,(ati c.m).map (va c s),[],dX c.p (s.x.take c.n) c.n⟩:=⟨hR,h,.inr (.inr (.inl ⟨hb,hf,az,rfl⟩))⟩;have e0:∀(x y:List Rat) (q:Rat),iq (.agg (iv 1::.ro (x.map aU)::.ro (y.map aU)::.val (.slice none 0 0)::(aU q).cells))=mn ⟨1,x,y,[],q⟩:=λx y q=>rfl;generalize s.x.take c.n=X at *;generalize dX c.p X c.n=v at *;generalize (ati c.m).map (va c s)=Y at *;simp only[cD,axz,ate,ai,ah];simp only[tT,tH,tS,db,as8,at3];refine aa.go ?_;simp(disch:=omega)[];repeat refine asi ?_
 refine asl (val) ?_;simp(disch:=omega)[hR,ep hR,eo hR];repeat refine asi ?_
 refine aa.draw (.qs [0,1]<|.m 2 [1000000,0,1,2,3,4,5,6,7,8,9,10,11,12] (.l 3 []<|.qs [4]<|.l 5 [c.m+6]<|.nil) 3 [] (.l 2 [1000000,0,1,2,3,4,5,6,7,8,9,10,11,12]<|.qs [4]<|.l 5 [c.m+6]<|.nil)) (by kernel_rfl) (by kernel_rfl) (by simp[xO]) ?_;simp[cE hR,ep hR,u5,u7];constructor
 ·refine dS (tl:=[_,_]) pr hR (by simp) (by intro ks e k hk;cases e;simp;omega) ?_;rintro T1 y ⟨rfl,rfl⟩;refine⟨s,rfl,hR,by simp,?_⟩;simp only[tT,tH,tS,as8,at3];simp[cE hR,cP hR,ep hR,u5,u7];exact Dk (s:=s) (v:=.agg (iv 1::.ro (X.map aU)::.ro (Y.map aU)::.val (.slice none 0 0)::(aU v).cells)) (tl:=[_]) h0 fx (by simp[zI,Go.Sv.get]) (e0 X Y v) fin
 ·refine dS (tl:=[_,_]) pr hR (by simp) (by intro ks e k hk;cases e;simp;omega) ?_;rintro T1 y ⟨rfl,rfl⟩;refine⟨s,rfl,hR,by simp,?_⟩;simp only[tT,tH,tS,as8,at3];simp[cE hR,cP hR];exact Dk (s:=s) (v:=.agg (iv 1::.ro (X.map aU)::.ro (Y.map aU)::.val (.slice none 0 0)::(aU v).cells)) (tl:=[_]) h0 fx (by simp[zI,Go.Sv.get]) (e0 X Y v) fin
end Go.Proofs
set_option maxRecDepth 10000
namespace Go.Proofs
open Go.Sv Go Go.Tb Go.Pl Go.Ut Go.Mx Go.Li Go.Dt Go.Sx
def zW(m N:Nat)(j:Nat)(X:List Rat):List (Nat × SV):=[(0,.ptr 0 0 0),(2,.ptr (m+6) 0 0),(7,iv j),(10,.ro (X.map aU)),(13,.ptr (m+7) 0 0),(14,.view (m+8) 0 N)]
def Gh(z:j0)(y:Rat)(L:List Rat):aD:=[some ⟨8,[mn z],false⟩,some ⟨4,[aU y],false⟩,some ⟨4,L.map aU,false⟩]
theorem ag7{c:Tc}{K:(Nat->Rat)->Prop}{s0 s:Tb}(hc:oR c)(hN:c.n+c.m=c.N)(h:fo c K s){j:Nat}(up:Bool){X:List Rat}{C:Ctx}(fx:∀k∈C.fx,k<c.m+6)
  (hn:aa awW C (bs 9 cD) ⟨161,zW c.m c.N j X,tT c s (Gh ju (yD up 1) (asr c.N 0))⟩ (Ec C c K s0)) :
  aa awW C (bs 5 cD) ⟨161,[(0,.ptr 0 0 0),(2,.ptr (c.m+6) 0 0),(7,iv j),(8,cX up),(9,cX false),(10,.ro (X.map aU))],tT c s [some ⟨8,[db 0],false⟩]⟩ (Ec C c K s0):=by
 have h7:=hc.m7;have af:=hc.sq;have hR:=h.t.R;refine aa.cutAt 4 (λst=>st=⟨161,zW c.m c.N j X,tT c s [some ⟨8,[db 0],false⟩,some ⟨4,[aU (yD up 1)],false⟩,some ⟨4,asr c.N (.agg [.val (.bool false),.val (.slice none 0 0),.val (.bool false),.val (.slice none 0 0)]),false⟩]⟩) ?_ ?_
 rotate_left 1
 ·rintro st rfl;have z0:iq (.agg [.val (.bool false),.val (.slice none 0 0),.val (.bool false),.val (.slice none 0 0)])=aU 0:=by rw[<-tI];rfl
  have e4:iq (db 0)=mn ju:=by have:mn ju=.agg (iv 0::.ro []::.ro []::.ro []::(aU 0).cells):=rfl;rw[this,<-tI];rfl
  have:=aa.le (rW (C:=C) (c:=c) (N0:=161) (fr:=zW c.m c.N j X) (fr':=zW c.m c.N j X) (tl:=[some ⟨8,[db 0],false⟩,some ⟨4,[aU (yD up 1)],false⟩,some ⟨4,asr c.N (.agg [.val (.bool false),.val (.slice none 0 0),.val (.bool false),.val (.slice none 0 0)]),false⟩]) (tl':=Gh ju (yD up 1) (asr c.N 0)) s hR fx (by simp[bU,Go.Sv.get,zW,zI]) (by simp[Gh,sW,z0,e4]) (by simp[gz,zW,Gh,SV.lt]) (by simp[Gh,ee,-List.map_replicate])) hn;simp only[cD,axz,ate,ai,ah]at this ⊢;exact this
 clear hn;simp only[cD,axz,ate,ai,ah,aN,aM];simp only[tT,tH,tS,db,as8,at3];have one:=CC 1 (by omega) (by omega);rw[show((1:Int):Rat)=1 from rfl]at one;simp(disch:=omega)[];repeat refine asi ?_
 refine asl (one) ?_;cases up with
 | true =>
  simp(disch:=omega)[hR,ep hR,eo hR];repeat refine asi ?_
  refine aa.draw (.qs [0,1,2,3,4,5,6,7,8]<|.l 9 []<|.qs [10]<|.nil) (by kernel_rfl) (by kernel_rfl) (by simp[xO]) ?_;simp(disch:=omega)[hR,aK];repeat refine asi ?_
  have y1:yD true 1=1:=if_pos rfl;rw[y1];simp only[hN];exact⟨rfl,by simp[bU,Go.Sv.get,zW],uI c s (aq _),.inl (by simp)⟩
 | false =>
  simp(disch:=omega)[hR,ep hR,eo hR];repeat refine asi ?_
  refine asl (iZ 1) ?_;simp(disch:=omega)[ep hR,eo hR];repeat refine asi ?_
  refine aa.draw (.qs [0,1,2,3,4,5,6,7,8]<|.l 9 []<|.qs [10]<|.nil) (by kernel_rfl) (by kernel_rfl) (by simp[xO]) ?_;simp(disch:=omega)[hR,aK];repeat refine asi ?_
  have y1:yD false 1 = -1:=if_neg (by simp);rw[y1];simp only[hN];exact⟨rfl,by simp[bU,Go.Sv.get,zW],uI c s (aq _),.inl (by simp)⟩
theorem ajB{c:Tc}{K:(Nat->Rat)->Prop}{s0 s:Tb}(hc:oR c)(hW:HW c K)(h:fo c K s){j:Nat}(hj:j<c.N){y:Rat}(hy:qw 1 y){X:List Rat}{C:Ctx}(fx:∀k∈C.fx,k<c.m+6)
  (hn:aa awW C (bs 11 cD) ⟨161,zW c.m c.N j X,tT c s (Gh ju y (gA c s j y c.m))⟩ (Ec C c K s0)) :
  aa awW C (bs 9 cD) ⟨161,zW c.m c.N j X,tT c s (Gh ju y (asr c.N 0))⟩ (Ec C c K s0):=by
 have h7:=hc.m7;have af:=hc.sq;have hR:=h.t.R;have hb:=h.t.b;refine aa.cutAt 2 (λst=>st=⟨161,zW c.m c.N j X,tT c s (Gh ju y (gA c s j y c.m))⟩) ?_ ?_
 rotate_left 1
 ·rintro st rfl;simp only[cD,axz,ate,ai,ah]at hn ⊢;exact hn
 clear hn;have l0:aL ((asr c.N (0:Rat)).map aU) j=aU 0:=by rw[bS (by simpa using hj)];simp[gt,hj]
 have ar:(asr c.N (0:Rat)).length=c.N:=by simp
 have r0:(asr c.N (0:Rat)).set j y=gA c s j y 0:=rfl;generalize asr c.N (0:Rat)=Z at *;simp only[cD,axz,ate,ai,ah,aN,aM];simp only[tT,tH,tS,zW,Gh,as8,at3];simp(disch:=omega)[ep hR,eo hR,hj,ar,l0,cg, -aue];repeat refine asi ?_
 rw[r0];refine aa.bM (ι:=Nat) (λi=>⟨161,zW c.m c.N j X++[(130,.view 5 0 c.m),(131,iv c.m),(132,iv i)],tT c s (Gh ju y (gA c s j y i))⟩)
  (λi=>i<=c.m) (λi=>c.m - i) 0 (by simp) ?_ ?_
 ·exact⟨rfl,by simp[bU,Go.Sv.get,zW],aq _,.inl rfl⟩
 ·rintro i hi;by_cases ae:i<c.m
  ·have au:=gj (N:=c.N) (m:=c.m) (i:=i) ae;have tg:=λtl:aD=>e9 (C:=s.R) (tl:=tl) (e:=i) (by omega);have Ri:=h.t.Rr i ae;have aA:=h.t.bb i ae;have lj:=bS (l:=gt s.R i) (i:=j) (by omega);have aB:=iF (l:=s.basic) (i:=i) (by omega);have qR:=hW _ _ h.d h.t.Rr i ae j (by omega);have rl:=j6 c s j y i;have rx:gA c s j y (i+1)=(gA c s j y i).set (gt s.basic i) (gt (gt s.R i) j*y):=rfl;generalize gA c s j y i=L at *;have lL:=bS (l:=L) (i:=gt s.basic i) (by omega);simp only[tT,tH,tS,zW,Gh,as8,at3];simp(disch:=omega)[ae,au];repeat refine asi ?_
   refine aa.draw (.qs [0,1,2,3,4,5,6,7,8,9,10,11,12]<|.l 13 []<|.qs [14]<|.l 15 [c.m+8]<|.nil) (by kernel_rfl) (by kernel_rfl) (by simp[xO]) ?_;simp(disch:=omega)[ep hR,ae,tg,Ri,lj,hj,hb,aB];repeat refine asi ?_
   refine asl (nV (gt (gt s.R i) j) y (ao qR (by omega)) (ao hy (by omega))) ?_;simp(disch:=omega)[ep hR,eo hR,aA,rl,lL,cg,aK, -aue];repeat refine asi ?_
   refine⟨i+1,by omega,by omega,?_⟩;rw[rx];exact Le.fm ⟨rfl,by simp(disch:=omega)[bU,Go.Sv.get],aq _,.inl rfl⟩
  ·obtain rfl:i=c.m:=by omega
   simp only[tT,tH,tS,zW,Gh,as8,at3];simp(disch:=omega)[];repeat refine asi ?_
   exact⟨rfl,by simp[bU,Go.Sv.get],aq _,.inl rfl⟩
theorem ajj{c:Tc}{K:(Nat->Rat)->Prop}{s0 s:Tb}(hN:c.n+c.m=c.N)(h0:s0.R.length=c.m)(hR:s.R.length=c.m){j:Nat}{y:Rat}{X L:List Rat}(hL:L.length=c.N)(fin:rH c K s ⟨3,X,[],L.take c.n,0⟩){C:Ctx}(fx:∀k∈C.fx,k<c.m+6) :
  aa awW C (bs 11 cD) ⟨161,zW c.m c.N j X,tT c s (Gh ju y L)⟩ (Ec C c K s0):=by
 have h1:=Ce (C:=C) (c:=c) (s:=s) (N0:=161) (fr:=zW c.m c.N j X) (tl:=Gh ju y L) hR 2 (e:=⟨4,L.map aU,false⟩) rfl (by simp);refine aa.le h1 ?_;have n1:¬c.m+7=c.m+6+2:=by omega
 have n2:c.m+8=c.m+6+2:=by omega
 have tk:avk c.N (L.map aU)=L.map aU:=aud (by simp[hL]);have e0:iq (.agg (iv 3::.ro (X.map aU)::.val (.slice none 0 0)::.ro ((L.take c.n).map aU)::[.val (.bool false),.val (.slice none 0 0),.val (.bool false),.val (.slice none 0 0)]))=mn ⟨3,X,[],L.take c.n,0⟩:=by have:mn ⟨3,X,[],L.take c.n,0⟩=.agg (iv 3::.ro (X.map aU)::.ro []::.ro ((L.take c.n).map aU)::(aU 0).cells):=rfl;rw[this,<-tI];rfl
 have mt:(L.take c.n).map aU=avk c.n (L.map aU):=List.map_take;simp only[cD,axz,ate,ai,ah];simp only[aX,tT,tH,tS,zW,Gh,as8,at3];refine aa.go ?_;simp[tk,n2,hL,cE hR,cP hR];refine asi ?_;rw[mt]at e0;exact Dk (s:=s) (v:=.agg (iv 3::.ro (X.map aU)::.val (.slice none 0 0)::.ro (avk c.n (L.map aU))::[.val (.bool false),.val (.slice none 0 0),.val (.bool false),.val (.slice none 0 0)])) (tl:=[_,_]) h0 fx (by simp[zI,Go.Sv.get]) e0 fin
theorem Gp(c:Tc)(K:(Nat->Rat)->Prop)(hc:oR c)(hw:zG c)(hW:HW c K)(hV:Wd 2200 c.cost)(hN:c.n+c.m=c.N)(n7:c.n<=7)(ap:As c.p)(pw:cT c.p)(hv:bh c.p=0)(hp:c.p.ab.length=c.n)(s:Tb)(h:fo c K s) :
  kv awW 78 [.ptr 0 0 0] (tT c s []) [] (aaX c K):=by
 have hR:=h.t.R;refine iQ Tryz.func78 rfl (by simp) (λC hC=>?_);have fx:=oJ hR hC;refine aa.wk ?_;show aa _ _ cD _ (Ec C c K s);refine ajO hc hw h fx λhb=>aha hc hw hb hW hN h fx λs1 h1 f1=>akp hc hw hb hW hV hN h1 f1 fx (λs2 h2 f2 b2=>?_) λs2 j up h2 f2 b2=>?_
 ·exact ajT hc hw hb hW hV hN n7 ap pw hv hp hR h2 f2 b2 fx
 ·have hy:qw 1 (yD up 1):=by
   unfold yD;cases up
   ·have:=fg (n := -1) (by omega) (by omega);simpa using this
   ·have:=fg (n:=1) (by omega) (by omega);simpa using this
  exact ag7 hc hN h2 up fx (ajB hc hW h2 b2.1 hy fx (ajj hN hR h2.t.R (j6 c s2 j (yD up 1) c.m) ⟨h2.t.R,h2,.inr (.inr (.inr ⟨hb,f2,j,up,b2,rfl⟩))⟩ fx))
end Go.Proofs

