/- A text of the prover's own. -/
import Derived.Test.YtnimjdcaajmfcaaGreatDoorVUb
open List renaming replicate->awQ,all_eq_true->ayG,range->ayq,cons_append->ayb,nil_append->aAf,range_succ->aB2,map_append->ayQ,map_set->aAq,any_eq_false->aCb,take_of_length_le->aAp,filter_append->aCo,length_append->awU,map_take->aAP
open Go.Proofs.Tryz renaming prog->ay9,f34->aCm
open Option renaming getD_some->ayj
set_option maxRecDepth 10000
namespace Go.Proofs
open Go.Sv Go Go.Tb Go.Pl Go.Ut Go.Mx Go.Li Go.Dt Go.Sx
theorem KE{n:Nat}(w:List Int)(N m:Nat)(R:List (List Rat))(i:Nat):∀k,SV.j3 n (Ey w N m R i k)=true
 | 0=>by
  have:awQ N (aS 0)=(awQ N (0:Rat)).map aS:=by simp
  simp only[Ey];rw[this,kA,ayG];intro _ _;rfl
 | k+1=>ru rfl (KE w N m R i k)
theorem rlB(p:aB)(n m N W:Nat)(hn:p.ai.length=n)(hm:p.rows.length=m)(hN:n+m=N)(af:N<=14)(h7:m<=7)(w:List Int)(hl:w.length=N)(ad:eG w N=m)(R:List (List Rat))(az:R.length=m)(ap:∀i,i<m->(gt R i).length=N)(h1:1<=W)(hW:W<=200000000)(hR:∀i k,i<m->k<N->qw W (gt (gt R i) k))(hw:cW p)(f:Nat->Rat)(hf:∀k,k<N->qw 2200 (f k)){C:Ctx}(hC:C.fx=[0]){Q:bf}(aj:∀c st,¬Q (.panic c) st)
  (hQ:∀fr,Q .normal ⟨234,fr,DZ p w N m ((xS f w N m R m).map aZ) ((qz (db p n) w N m R m 0).map aZ) (((ayq m).map (qt w N m R)).map iu)⟩) :
  aa ay9 C (bh 6 xe) ⟨234,Ly w n m N R,DZ p w N 0 ((xS f w N m R 0).map aZ) ((qz (db p n) w N m R 0 0).map aZ) []⟩ Q:=by
 simp only[xe,Tryz.f89,ayj,ah,ab];have lo:=nN w N;have lb:=ja w N;have al:∀k,k<N->qw 2200 (db p n k):=λk hk=>by
  unfold db;split
  ·exact(hw.co k (by omega)).1
  ·exact cC (by omega)
 simp only[Ly,DZ];refine aa.go ?_;simp;refine aa.bB (ι:=Nat) (λi=>⟨234,Ly w n m N R++[(15,iv i)],DZ p w N i ((xS f w N m R i).map aZ) ((qz (db p n) w N m R i 0).map aZ) (((ayq i).map (qt w N m R)).map iu)⟩)
  (λi=>i<=m) (λi=>m - i) 0 (by omega) ?_ ?_
 ·simp[aP,Ly,DZ,ao]
 ·rintro i hi;simp only[Ly,DZ,ayb,aAf];by_cases ae:i<m
  ·have lX:∀i,(xS f w N m R i).length=N:=λi=>by simp
   have aT:kT (((ayq i).map (qt w N m R)).map iu)=((ayq i).map (qt w N m R)).map iu:=cR iu (λ_=>rfl) _;have aU:kT ((xS f w N m R i).map aZ)=(xS f w N m R i).map aZ:=cR aZ (λ_=>rfl) _;have aW:kT ((qz (db p n) w N m R i 0).map aZ)=(qz (db p n) w N m R i 0).map aZ:=cR aZ (λ_=>rfl) _;have nb:kT ((bL w N).map cv)=(bL w N).map cv:=cR cv (λ_=>rfl) _;have zz:ig (.agg [.val (.bool false),.val (.slice none 0 0),.val (.bool false),.val (.slice none 0 0)])=aS 0:=by rw[<-ou];rfl
   have eB:(ayq (i+1)).map (qt w N m R)=(ayq i).map (qt w N m R)++[qt w N m R i]:=by rw[aB2,ayQ];rfl
   have lB:((ayq i).map (qt w N m R)).length=i:=by simp
   have gX:∀k,k<N->m<=k->gt (xS f w N m R i) (gt (oL w N) k)=f (gt (oL w N) k):=λk hk bc=>La ad (m6 hk) (Qt (by omega) hk) i (by omega);have nX:xS f w N m R (i+1)=(xS f w N m R i).set (gt (bL w N) i) (sD f w N m R i N):=rfl;have aI:=lX i;generalize hB:(ayq i).map (qt w N m R)=B at *;generalize hX:xS f w N m R i=X at *;have bi:=(mf (w:=w) (N:=N) (k:=i) (by omega)).1;have ar:=fI (l:=bL w N) (i:=i) (by omega);simp(disch:=omega)[ae];repeat refine awG ?_
   refine awI (oh) ?_;simp;refine aa.le (Le.nl _) ?_;simp[LW,ry,p9,ig,aT,aU,aW];refine aa.bB (ι:=Nat) (λk=>⟨234,Ly w n m N R++[(15,iv i),(16,.view 5 0 N),(17,.ptr 6 0 0),(18,iv k)],DZ p w N i (X.map aZ) ((qz (db p n) w N m R i k).map aZ) (B.map iu)++[some ⟨4,Ey w N m R i k,false⟩,some ⟨4,[aZ (sD f w N m R i k)],false⟩]⟩)
    (λk=>k<=N) (λk=>N - k) 0 (by omega) ?_ ?_
   ·simp[aP,Ly,DZ,fj,Ey,sD,aG];exact⟨rfl,.inr (by rw[<-ou]),rfl⟩
   ·rintro k hk;simp only[Ly,DZ,ayb,aAf];by_cases ac:k<N
    ·have au:(Ey w N m R i k).length=N:=by simp
     have aJ:(qz (db p n) w N m R i k).length=N:=by simp
     have ok:=m6 (w:=w) ac;have ak:=fI (l:=oL w N) (i:=k) (by omega);have gB:aM (Ey w N m R i k) (gt (oL w N) k)=aS 0:=by rw[uH (by omega)];have:=Jm (w:=w) (N:=N) (m:=m) (R:=R) (i:=i) k hk k ac;rw[List.getElem?_eq_getElem (by omega),if_neg (by omega)]at this;exact Option.some.inj this
     have g2:=λv=>wZ (X:=Ey w N m R i k) (k:=gt (oL w N) k) (v:=v) (by omega);have tB:∀v:Rat,SV.j3 7 ((Ey w N m R i k).set (gt (oL w N) k) (aZ v))=true:=λv=>ru rfl (KE w N m R i k);have sB:Ey w N m R i (k+1)=(Ey w N m R i k).set (gt (oL w N) k) (aZ (bD m R i k)):=rfl;have sC:qz (db p n) w N m R i (k+1)=(qz (db p n) w N m R i k).set (gt (oL w N) k) (gt (qz (db p n) w N m R i k) (gt (oL w N) k)+bD m R i k*db p n (gt (bL w N) i)):=rfl;have sS:sD f w N m R i (k+1)=sD f w N m R i k+bD m R i k*f (gt (oL w N) k):=rfl;have av:=NG (f:=db p n) (w:=w) (N:=N) (m:=m) (R:=R) (i:=i) ac;have gC:=zL (f:=db p n) (R:=R) ad (i:=i) k hk k ac;rw[if_neg (by omega)]at gC;have wC:=TA (f:=db p n) (w:=w) h1 ad hR al (i:=i) (by omega) ok;rw[<-gC]at wC;have wS:=abY (f:=f) (w:=w) h1 hR hf ae hk;have wb:=RT (m:=m) (N:=N) h1 hR ae ac;have wf:=hf _ ok;have wc:=al _ bi;have lC:=eh (l:=qz (db p n) w N m R i k) (i:=gt (oL w N) k) (by omega);have lx:=eh (l:=X) (i:=gt (oL w N) k) (by omega);have lR:=oZ (l:=R) (i:=i) (by omega);have a0:=eh (l:=gt R i) (i:=k) (by rw[ap i ae];exact ac);have Ri:=ap i ae;have am:bD m R i k=if k<m then 0 else -(gt (gt R i) k):=rfl;generalize Ey w N m R i k=Y at *;generalize qz (db p n) w N m R i k=Co at *;generalize sD f w N m R i k=x at *;simp(disch:=omega)[ac];repeat refine awG ?_
     refine aa.draw (.qs [0,1,2,3,4]<|.l 5 []<|.qs [6]<|.l 7 [5]<|.nil) (by kernel_rfl) (by kernel_rfl) (by simpa using aj) ?_;simp(disch:=omega)[ac,lo,ak];repeat refine awG ?_
     refine awI (oh) ?_;by_cases aw:k<m
     ·rw[if_pos aw]at am;rw[am]at sB sS av;simp(disch:=omega)[ok,au,gB,cq,aw,aD, -aAq];repeat refine awG ?_
      refine⟨k+1,by omega,by omega,?_⟩;rw[sB,sS,av (by rw[Rat.zero_mul]),Rat.zero_mul,Rat.add_zero];exact Le.dE (by simp(disch:=omega)[aP,hC,tB])
     ·rw[if_neg aw]at am;have a1:=gX k ac (by omega);rw[a1]at lx;have aK : -(gt (gt R i) k)=bD m R i k:=am.symm;simp(disch:=omega)[ac,ok,au,gB,cq,aw,lR,az,a0,Ri,ae, -aAq];repeat refine awG ?_
      refine awI (KS (gt (gt R i) k)) ?_;rw[aK];clear am aK;generalize bD m R i k=b at *;simp;refine aa.draw (.qs [0,1,2,3,4,5,6]<|.l 7 [5]<|.nil) (by kernel_rfl) (by kernel_rfl) (by simpa using aj) ?_;simp(disch:=omega)[ac,lo,ak,ok,au,g2,cq, -aAq];repeat refine awG ?_
      refine aa.jB (.d 12<|.qs [0,1,2,3,4,5,6,7,8,9,10]<|.p 11<|.b ( .l 13 [8]<|.nil )) (by kernel_rfl) (by kernel_rfl) (by simpa using aj) ?_;simp(disch:=omega)[ac,lo,ak,ok,aI,lx, -aAq];repeat refine awG ?_
      refine ff (lF b (f (gt (oL w N) k)) (aq wb (by omega)) (aq wf (by omega))) (by simp) ?_;simp(disch:=omega)[-aAq];repeat refine awG ?_
      have hz:k*(W+2200+1)<=14*(W+2200+1):=Nat.mul_le_mul_right _ (by omega);have bd:i*(W+2200+1)<=7*(W+2200+1):=Nat.mul_le_mul_right _ (by omega);refine awI (m4 x (b*f (gt (oL w N) k)) (aq wS (by omega)) (aq (cy wb wf (by omega)) (by omega))) ?_;simp(disch:=omega)[-aAq];repeat refine awG ?_
      refine aa.draw (.qs [0,1,2,3,4,5,6,7,8,9,10]<|.nil) (by kernel_rfl) (by kernel_rfl) (by simpa using aj) ?_;by_cases an:gt (bL w N) i<n
      ·have ec:db p n (gt (bL w N) i)=(gt p.ai (gt (bL w N) i)).cost:=if_pos an;have a2:=dc (l:=p.ai) (i:=gt (bL w N) i) (by omega);rw[ec]at sC wc;simp(disch:=omega)[lb,ad,ae,ar,hn,an, -aAq];repeat refine awG ?_
       refine aa.jB (.d 14<|.qs [0,1,2,3,4,5,6,7,8,9,10,11,12]<|.p 13<|.b ( .l 15 [9]<|.nil )) (by kernel_rfl) (by kernel_rfl) (by simpa using aj) ?_;simp(disch:=omega)[lb,ad,ae,ar,hn,an,a2, -aAq];repeat refine awG ?_
       refine ff (lF b (gt p.ai (gt (bL w N) i)).cost (aq wb (by omega)) (aq wc (by omega))) (by simp) ?_;simp(disch:=omega)[-aAq];repeat refine awG ?_
       refine aa.draw (.qs [0,1,2,3,4,5,6,7,8,9,10,11,12,13,14,15,16,17,18]<|.l 19 []<|.qs [20]<|.l 21 [3]<|.nil) (by kernel_rfl) (by kernel_rfl) (by simpa using aj) ?_;simp(disch:=omega)[lo,ak,ok,ac,aJ,lC, -aAq];repeat refine awG ?_
       refine awI (m4 (gt Co (gt (oL w N) k)) (b*(gt p.ai (gt (bL w N) i)).cost) (aq wC (by omega)) (aq (cy wb wc (by omega)) (by omega))) ?_;simp(disch:=omega)[ok,aJ,lC,JR,aD, -aAq];repeat refine awG ?_
       refine⟨k+1,by omega,by omega,?_⟩;rw[sB,sS,sC];exact Le.dE (by simp(disch:=omega)[aP,hC,tB, -aAq])
      ·have ec:db p n (gt (bL w N) i)=0:=if_neg an;rw[ec]at av;simp(disch:=omega)[lb,ad,ae,ar,hn,an,aD, -aAq];repeat refine awG ?_
       refine⟨k+1,by omega,by omega,?_⟩;rw[sB,sS,av (by rw[Rat.mul_zero])];exact Le.dE (by simp(disch:=omega)[aP,hC,tB])
    ·obtain rfl:k=N:=by omega
     have lD:=sL w k m R i;have us:SV.aY 4 ((qt w k m R i).map aZ)=false:=by rw[gU,aCb];intro _ _;simp
     rw[Te,QW ad];simp(disch:=omega)[us];repeat refine awG ?_
     refine⟨⟨by simp[hC],by omega,by omega⟩,?_⟩;have sq:j6 5 ((qt w k m R i).map aZ) (X.map aZ)=X.map aZ:=dh _ _ _ (by simp);have aF:j6 5 ((qt w k m R i).map aZ) ((qz (db p n) w k m R (i+1) 0).map aZ)=(qz (db p n) w k m R (i+1) 0).map aZ:=dh _ _ _ (by simp);have aH:j6 5 ((qt w k m R i).map aZ) (B.map iu)=B.map iu:=dh _ _ _ (by simp);have a3:j6 5 ((qt w k m R i).map aZ) ((qt w k m R i).map aZ)=(qt w k m R i).map aZ:=dh _ _ _ (by simp);have tk:((qt w k m R i).map aZ).take k=(qt w k m R i).map aZ:=aAp (by simp[lD]);refine aa.uO 5 rfl (by simp) ?_;simp[lZ,aX,tk,lD];refine aa.draw (.qs [0,1,2,3,4,5,6,7,8,9,10,11,12]<|.l 13 [2]<|.nil) (by kernel_rfl) (by kernel_rfl) (by simpa using aj) ?_;have a4:=eh (l:=X) (i:=gt (bL w k) i) (by omega);simp(disch:=omega)[lb,ad,ae,ar,bi,aI,a4,JR,aD, -aAq];repeat refine awG ?_
     refine⟨i+1,by omega,by omega,?_⟩;rw[nX,<-List.map_map,eB,ayQ];exact Le.dE (by simp(disch:=omega)[aP,hC,-aAq])
  ·obtain rfl:i=m:=by omega
   have hQ:=hQ;simp only[DZ]at hQ;simp(disch:=omega)[];repeat refine awG ?_
   simp at hQ;exact hQ _
end Go.Proofs
namespace Go.Proofs
open Go.Sv Go Go.Tb Go.Pl Go.Ut Go.Mx Go.Li Go.Dt Go.Sx
theorem PA(p:aB)(n m N W:Nat)(hn:p.ai.length=n)(hm:p.rows.length=m)(hN:n+m=N)(af:N<=14)(h7:m<=7)(w:List Int)(hl:w.length=N)(ad:eG w N=m)(ag:∀k,k<N->Sx.fit (bC p n m N) w k)(R:List (List Rat))(az:R.length=m)(ap:∀i,i<m->(gt R i).length=N)(h1:1<=W)(hW:W<=200000000)(hR:∀i k,i<m->k<N->qw W (gt (gt R i) k))(hw:cW p) :
  kZ ay9 89 [.ptr 0 0 0,bX p,.ro (w.map iv),.ro ((oL w N).map cv),.ro (R.map iu)] [some ⟨4,[.agg [.ro ((bL w N).map cv),.val (.slice none 0 0),.val (.slice none 0 0),.val (.slice none 0 0)]],false⟩] []
   (λT y=>T=[some ⟨4,[WZ (bL w N) ((ayq m).map (qt w N m R)) (xS (xw (bC p n m N) w) w N m R m) (qz (db p n) w N m R m 0)],false⟩]∧y=.bM []):=by
 refine iG Tryz.func89 rfl (by simp) (λC hC=>?_);have hC:C.fx=[0]:=by simpa using hC
 have hf:∀k,k<N->qw 2200 (xw (bC p n m N) w k):=λk hk=>CQ (Kt hn hm hN hw) w hk;refine aa.wk ?_;show aa _ _ xe _ _;refine rlA p n m N hn hm hN af w hl ag R hC (λc st h=>by obtain⟨_,_,h⟩:=h;exact h) ?_;refine rlB p n m N W hn hm hN af h7 w hl ad R az ap h1 hW hR hw (xw (bC p n m N) w) hf hC (λc st h=>by obtain⟨_,_,h⟩:=h;exact h) (λfr=>?_);have lX:(xS (xw (bC p n m N) w) w N m R m).length=N:=by simp
 have lC:(qz (db p n) w N m R m 0).length=N:=by simp
 have lB:((ayq m).map (qt w N m R)).length=m:=by simp
 generalize xS (xw (bC p n m N) w) w N m R m=X at *;generalize qz (db p n) w N m R m 0=Co at *;generalize (ayq m).map (qt w N m R)=B at *;have t1:(B.map iu).take m=B.map iu:=aAp (by simp[lB]);have t2:(X.map aZ).take N=X.map aZ:=aAp (by simp[lX]);have t3:(Co.map aZ).take N=Co.map aZ:=aAp (by simp[lC]);have sq:∀k es (X:List Rat),j6 k es (X.map aZ)=X.map aZ:=λk es X=>dh _ _ _ (by simp);have aH:∀k es,j6 k es (B.map iu)=B.map iu:=λk es=>dh _ _ _ (by simp);have p0:Le C ⟨234,fr,DZ p w N m (X.map aZ) (Co.map aZ) (B.map iu)⟩ ⟨234,[],DZ p w N m (X.map aZ) (Co.map aZ) (B.map iu)⟩:=Le.dE ⟨rfl,by simp[bY],ao _,.inl rfl⟩;have p1:=Le.uO (C:=C) (st:=⟨234,[],DZ p w N m (X.map aZ) (Co.map aZ) (B.map iu)⟩) 4 rfl (by simp);have p2:=Le.uO (C:=C) (st:=⟨234,[],[some ⟨4,[.agg [.ro ((bL w N).map cv),.ro (B.map iu),.view 2 0 N,.view 3 0 N]],false⟩,some ⟨7,[bX p],false⟩,some ⟨4,X.map aZ,false⟩,some ⟨4,Co.map aZ,false⟩,some ⟨1,B.map iu,true⟩]⟩) 3 rfl (by simp);have p3:=Le.uO (C:=C) (st:=⟨234,[],[some ⟨4,[.agg [.ro ((bL w N).map cv),.ro (B.map iu),.view 2 0 N,.ro (Co.map aZ)]],false⟩,some ⟨7,[bX p],false⟩,some ⟨4,X.map aZ,false⟩,some ⟨4,Co.map aZ,true⟩,some ⟨1,B.map iu,true⟩]⟩) 2 rfl (by simp);simp[lZ,aX,aA,DZ,t1,t2,t3,lB,lX,lC]at p1 p2 p3;refine⟨_,p0.trans (p1.trans (p2.trans p3)),?_⟩;exact⟨trivial,rfl,_,_,⟨rfl,rfl⟩,rfl,⟨.inr rfl,trivial⟩,by simp,.inr ⟨by simp,by simp[eA,WZ]⟩⟩
end Go.Proofs
set_option maxRecDepth 10000
namespace Go.Sx
open Go Go.Sv Go.Pl Go.Proofs Go.Tb Go.Ut Go.Mx Go.Li Go.Dt
def oK(w:List Int)(N k:Nat):List Nat:=bL w N++(ayq k).filter λq=>!decide (gt w q=1)
theorem Q3(w:List Int)(N:Nat):oK w N 0=bL w N:=by simp[oK]
theorem VC(w:List Int)(N:Nat):oK w N N=oL w N:=rfl
theorem RO(w:List Int)(N k:Nat):oK w N (k+1)=oK w N k++if gt w k=1 then[] else[k]:=by unfold oK;rw[aB2,aCo,List.append_assoc];congr 1;by_cases h:gt w k=1<;>simp[h]
theorem P4(w:List Int):∀k,((ayq k).filter λq=>!decide (gt w q=1)).length+eG w k=k
 | 0=>rfl
 | k+1=>by
  rw[aB2,aCo,awU];have:=P4 w k;simp only[eG];by_cases h:gt w k=1
  ·simp[h];omega
  ·simp[h];omega
theorem W6(w:List Int)(N k:Nat):(oK w N k).length=eG w N+k - eG w k:=by have:=P4 w k;unfold oK;rw[awU,ja];omega
def WC(p:aB)(n N:Nat)(ord:List Nat)(i:Nat):List Rat:=(ayq N).map λk=>lW p n i (gt ord k)
theorem Tm(p:aB)(n m N:Nat)(ord:List Nat):iq p n m N ord=(ayq m).map (WC p n N ord):=rfl
theorem LM(k:Nat):bU [] k=([],[]):=by have:=p6 (a:=[]) (c:=0) (by simp[bU]) k;rw[Nat.zero_add]at this;exact this
end Go.Sx
namespace Go.Proofs
open Go.Sv Go Go.Tb Go.Pl Go.Ut Go.Mx Go.Li Go.Dt Go.Sx
theorem QG(a:List (List Rat))(n N:Nat)(h:Tw n N 2200 a)(hn:n<=7)(hN:N<=40):aE ay9 88 [.ro (a.map iu)] (.bM [.ro ((bU a N).1.map iu),.ro ((bU a N).2.map cv)]):=by
 match a,h with
 | [],h =>
  have:=x7 [] 0 0 ⟨rfl,λi hi=>by omega,λi j hi=>by omega⟩ (by omega) (by omega) rfl;rw[LM]at this ⊢;exact this
 | x::a,h =>
  refine x7 (x::a) n N h hn hN ?_;have:=h.r 0 (by have:=h.l;simp at this;omega);rw[<-this];rfl
def xm(p:aB)(w:List Int)(N:Nat):aC:=[some ⟨7,[bX p],false⟩,some ⟨4,[.agg [.val (.slice none 0 0),.val (.slice none 0 0),.val (.slice none 0 0),.val (.slice none 0 0)]],false⟩,some ⟨4,[.agg [.ro ((bL w N).map cv),.val (.slice none 0 0),.val (.slice none 0 0),.val (.slice none 0 0)]],false⟩]
theorem rfB(p:aB)(n m N:Nat)(hm:p.rows.length=m)(hN:n+m=N)(af:N<=14)(w:List Int)(hl:w.length=N)(ad:eG w N=m){C:Ctx}(hC:C.fx=[]){Q:bf}(aj:∀c st,¬Q (.panic c) st)
  (hQ:aa ay9 C (bh 10 jQ) ⟨162,oG w n m++[(9,.ro ((oL w N).map cv))],xm p w N⟩ Q) :
  aa ay9 C (bh 8 jQ) ⟨162,oG w n m++[(9,.val (.slice none 0 0))],IY p w N⟩ Q:=by
 have wr:IntKind.i64.wrap ((n:Int)+m)=(N:Int):=by simp(disch:=omega)[aD];omega
 have lb:=ja w N;refine aa.nil 9 1 rfl ?_;refine aa.cutAt 2 (λst=>st=⟨162,oG w n m++[(9,.view 4 0 N)],IY p w N++[some ⟨1,(oL w N).map cv,false⟩]⟩) ?_ ?_
 rotate_left 1
 ·rintro st rfl;have tk:((bL w N).map cv).take (eG w N)=(bL w N).map cv:=aAp (by simp[lb]);have a5:((oL w N).map cv).take N=(oL w N).map cv:=aAp (by simp[nN]);have sq:∀k es (X:List Nat),j6 k es (X.map cv)=X.map cv:=λk es X=>dh _ _ _ (by simp);have lo:=nN w N;have p1:=Le.uO (C:=C) (st:=⟨162,oG w n m++[(9,.view 4 0 N)],IY p w N++[some ⟨1,(oL w N).map cv,false⟩]⟩) 4 rfl (by simp);have p2:=Le.uO (C:=C) (st:=⟨162,oG w n m++[(9,.ro ((oL w N).map cv))],IY p w N++[some ⟨1,(oL w N).map cv,true⟩]⟩) 3 rfl (by simp);have p3:Le C ⟨162,oG w n m++[(9,.ro ((oL w N).map cv))],xm p w N++[some ⟨1,(bL w N).map cv,true⟩,some ⟨1,(oL w N).map cv,true⟩]⟩ ⟨162,oG w n m++[(9,.ro ((oL w N).map cv))],xm p w N⟩:=Le.dE (by simp[aP,bY,Go.Sv.get,oG,xm,fj,hC,eA,gK]);simp[lZ,aX,aA,IY,oG,xm,tk,a5,lb,lo]at p1 p2 p3;simp only[jQ,aCm,ayj,ah,ab]at hQ ⊢;simp[IY,oG,xm]at hQ ⊢;exact aa.le (p1.trans (p2.trans p3)) hQ
 clear hQ;simp only[jQ,aCm,ayj,ah,ab,aN,aL];simp only[oG,IY,ayb,aAf,List.length_cons,List.length_nil];have tk:((bL w N).map cv).take (eG w N)=(bL w N).map cv:=aAp (by simp[lb]);simp(disch:=omega)[tk,lb];repeat refine awG ?_
 have ck:=tL w N;refine⟨⟨by simp[hC],by omega⟩,?_⟩;refine aa.bB (ι:=Nat) (λk=>⟨162,oG w n m++[(9,.view 4 0 (eG w N+k - eG w k)),(13,iv k)],IY p w N++[some ⟨1,(oK w N k).map cv,false⟩]⟩)
  (λk=>k<=N) (λk=>N - k) 0 (by omega) ?_ ?_
 ·simp[aP,oG,IY,ao,Q3,Sx.eG]
 ·rintro k hk;simp only[oG,IY,ayb,aAf];have lk:=W6 w N k;have cw:=tL w k;by_cases ac:k<N
  ·have lw:=cf (l:=w) (i:=k) (by omega);have cs:eG w (k+1)=eG w k+if gt w k=1 then 1 else 0:=rfl;have os:=RO w N k;by_cases e1:gt w k=1
   ·rw[if_pos e1]at cs os;rw[e1]at lw;rw[List.append_nil]at os;simp(disch:=omega)[ac,wr,lw,hl,aD];repeat refine awG ?_
    refine⟨k+1,by omega,by omega,?_⟩;rw[os,cs,show eG w N+(k+1) - (eG w k+1)=eG w N+k - eG w k by omega];exact Le.dE (by simp(disch:=omega)[aP,hC])
   ·rw[if_neg e1]at cs os;simp(disch:=omega)[ac,wr,lw,hl,e1,lk,aD];repeat refine awG ?_
    refine⟨⟨by simp[hC],by omega⟩,k+1,by omega,by omega,?_⟩;rw[os,cs,show eG w N+(k+1) - (eG w k+0)=eG w N+k - eG w k+1 by omega,ayQ];exact Le.dE (by simp(disch:=omega)[aP,hC,cv])
  ·obtain rfl:k=N:=by omega
   simp(disch:=omega)[wr];repeat refine awG ?_
   rw[VC];exact⟨rfl,by simp[bY,Go.Sv.get],ao _,.inl rfl⟩
theorem rfC(p:aB)(fw:BF p)(n m N:Nat)(hn:p.ai.length=n)(hm:p.rows.length=m)(hN:n+m=N)(af:N<=14)(w:List Int)(hl:w.length=N){C:Ctx}(hC:C.fx=[]){Q:bf}(aj:∀c st,¬Q (.panic c) st)
  (hQ:aa ay9 C (bh 12 jQ) ⟨162,oG w n m++[(9,.ro ((oL w N).map cv)),(14,.ro ((iq p n m N (oL w N)).map iu))],xm p w N⟩ Q) :
  aa ay9 C (bh 10 jQ) ⟨162,oG w n m++[(9,.ro ((oL w N).map cv))],xm p w N⟩ Q:=by
 have wr:IntKind.i64.wrap ((n:Int)+m)=(N:Int):=by simp(disch:=omega)[aD];omega
 have lo:=nN w N;have lt:=rf p n m N (oL w N);refine aa.cutAt 2 (λst=>st=⟨162,oG w n m++[(9,.ro ((oL w N).map cv)),(14,.view 3 0 m)],xm p w N++[some ⟨1,(iq p n m N (oL w N)).map iu,false⟩]⟩) ?_ ?_
 rotate_left 1
 ·rintro st rfl;have tk:((iq p n m N (oL w N)).map iu).take m=(iq p n m N (oL w N)).map iu:=aAp (by simp[lt]);have p1:=Le.uO (C:=C) (st:=⟨162,oG w n m++[(9,.ro ((oL w N).map cv)),(14,.view 3 0 m)],xm p w N++[some ⟨1,(iq p n m N (oL w N)).map iu,false⟩]⟩) 3 rfl (by simp);have sq:∀k es,j6 k es ((iq p n m N (oL w N)).map iu)=(iq p n m N (oL w N)).map iu:=λk es=>dh _ _ _ (by simp);have p3:Le C ⟨162,oG w n m++[(9,.ro ((oL w N).map cv)),(14,.ro ((iq p n m N (oL w N)).map iu))],xm p w N++[some ⟨1,(iq p n m N (oL w N)).map iu,true⟩]⟩ ⟨162,oG w n m++[(9,.ro ((oL w N).map cv)),(14,.ro ((iq p n m N (oL w N)).map iu))],xm p w N⟩:=Le.dE (by simp[aP,bY,Go.Sv.get,oG,xm,fj,hC,eA,gK]);simp[lZ,aX,aA,oG,xm,tk,lt]at p1 p3;simp only[jQ,aCm,ayj,ah,ab]at hQ ⊢;simp[oG,xm]at hQ ⊢;exact aa.le (p1.trans p3) hQ
 clear hQ;simp only[jQ,aCm,ayj,ah,ab,aN,aL];simp only[oG,xm,ayb,aAf];simp(disch:=omega)[];repeat refine awG ?_
 refine aa.nil 14 1 rfl ?_;simp;refine aa.bB (ι:=Nat) (λi=>⟨162,oG w n m++[(9,.ro ((oL w N).map cv)),(14,.view 3 0 i),(15,iv i)],xm p w N++[some ⟨1,((iq p n m N (oL w N)).take i).map iu,false⟩]⟩)
  (λi=>i<=m) (λi=>m - i) 0 (by omega) ?_ ?_
 ·simp[aP,oG,xm,ao]
 ·rintro i hi;simp only[oG,xm,ayb,aAf];by_cases ae:i<m
  ·have aO:=Mx.oY iu (l:=iq p n m N (oL w N)) (i:=i) (by omega);have gi:gt (iq p n m N (oL w N)) i=WC p n N (oL w N) i:=by rw[Tm,aV _ ae]
   have lr:(WC p n N (oL w N) i).length=N:=by simp[WC]
   have gr:∀k,k<N->gt (WC p n N (oL w N) i) k=lW p n i (gt (oL w N) k):=λk hk=>by unfold WC;rw[aV _ hk]
   rw[gi]at aO;generalize iq p n m N (oL w N)=T at *;generalize WC p n N (oL w N) i=r at *;simp(disch:=omega)[ae];repeat refine awG ?_
   refine aa.nil 16 4 rfl ?_;simp;refine aa.bB (ι:=Nat) (λk=>⟨162,oG w n m++[(9,.ro ((oL w N).map cv)),(14,.view 3 0 i),(15,iv i),(16,.view 4 0 k),(17,iv k)],xm p w N++[some ⟨1,(T.take i).map iu,false⟩,some ⟨4,(r.take k).map aZ,false⟩]⟩)
    (λk=>k<=N) (λk=>N - k) 0 (by omega) ?_ ?_
   ·simp[aP,oG,xm,ao]
   ·rintro k hk;simp only[oG,xm,ayb,aAf];by_cases ac:k<N
    ·have ok:=m6 (w:=w) ac;have ak:=fI (l:=oL w N) (i:=k) (by omega);have aQ:=Mx.oY aZ (l:=r) (i:=k) (by omega);rw[gr k ac]at aQ;simp(disch:=omega)[ac,wr];repeat refine awG ?_
     refine aa.draw (.qs [0,1,2,3,4,5,6]<|.l 7 []<|.l 8 []<|.l 9 [1000000]<|.qs [10]<|.nil) (by kernel_rfl) (by kernel_rfl) (by simpa using aj) ?_;simp(disch:=omega)[ac,lo,ak];repeat refine awG ?_
     refine awI (M9 p fw n m i (gt (oL w N) k) hn hm ae (by omega) (by omega)) ?_;have us:SV.aY 4 ((T.map iu).take i)=false:=by rw[<-aAP,gU,aCb];intro _ _;simp
     simp(disch:=omega)[lr,us,aD];repeat refine awG ?_
     refine⟨⟨by simp[hC],by omega⟩,k+1,by omega,by omega,?_⟩;rw[aQ];exact Le.dE (by simp(disch:=omega)[aP,hC])
    ·obtain rfl:k=N:=by omega
     have tr:(r.map aZ).take k=r.map aZ:=aAp (by simp[lr]);have sq:j6 4 (r.map aZ) ((T.map iu).take i)=(T.map iu).take i:=by rw[<-aAP];exact dh _ _ _ (by simp)
     have aF:j6 4 (r.map aZ) (r.map aZ)=r.map aZ:=dh _ _ _ (by simp);have be:SV.j3 4 (T.map iu)=true:=by rw[kA,ayG];intro _ _;rfl
     have a6:SV.j3 4 ((T.map iu).take i)=true:=by rw[<-aAP,kA,ayG];intro _ _;rfl
     simp(disch:=omega)[wr,tr,aD];repeat refine awG ?_
     refine⟨⟨by simp[hC],by omega⟩,i+1,by omega,by omega,?_⟩;refine(Le.uO 4 rfl (by simp)).trans ?_;simp[lZ,aX,tr,lr];rw[aO];exact Le.dE (by simp(disch:=omega)[aP,hC,a6])
  ·obtain rfl:i=m:=by omega
   have e1:((iq p n i N (oL w N)).map iu).take i=(iq p n i N (oL w N)).map iu:=aAp (by simp[lt]);simp(disch:=omega)[e1];repeat refine awG ?_
   exact⟨rfl,by simp[bY,Go.Sv.get],ao _,.inl rfl⟩
end Go.Proofs
set_option maxRecDepth 10000
namespace Go.Proofs
open Go.Sv Go Go.Tb Go.Pl Go.Ut Go.Mx Go.Li Go.Dt Go.Sx
theorem Kd{p:aB}{n m N:Nat}(hm:p.rows.length=m)(hw:cW p)(ord:List Nat):Tw m N 2200 (iq p n m N ord) where
 l:=rf ..
 r i hi:=(EG p n m N ord).r i hi
 q i k hi hk:=by
  rw[Lc hi hk];unfold lW;split
  ·exact rO (by omega) λq hq=>hw.te i (by omega) q hq
  ·split
   ·exact ax (fh (fG (n:=1) (by omega) (by omega))) (by omega)
   ·exact cC (by omega)
theorem Un{c:Tc}{K:(Nat->Rat)->Prop}{a7:Nat->Rat}{w:List Int}{l:List Nat}{M:aC}(a8:¬HQ c K w) :
  fin M (.bM [.agg [.ro (l.map cv),.val (.slice none 0 0),.val (.slice none 0 0),.val (.slice none 0 0)],.val (.bool false)]) (WV c K a7 w) :=
 ⟨.bM [.agg [.ro (l.map cv),.ro [],.ro [],.ro []],.val (.bool false)],by simp,.inr ⟨a8,l,rfl⟩⟩
theorem rfD(p:aB)(n m N:Nat)(hn:p.ai.length=n)(hm:p.rows.length=m)(hN:n+m=N)(af:N<=14)(h7:m<=7)(hw:cW p)(w:List Int)(hl:w.length=N)(ag:∀k,k<N->Sx.fit (bC p n m N) w k)(ad:eG w N=m){C:Ctx}(hC:C.fx=[]) :
  aa ay9 C (bh 12 jQ) ⟨162,oG w n m++[(9,.ro ((oL w N).map cv)),(14,.ro ((iq p n m N (oL w N)).map iu))],xm p w N⟩ (kg ay9 [.cell 4 91,.tmp 5] (WV (bC p n m N) (Kp p n m) (db p n) w)):=by
 have tw:=Kd (n:=n) (N:=N) hm hw (oL w N);have ro:=QG _ m N tw h7 (by omega);have re:=Kn (EG p n m N (oL w N)) (show m<=N by omega);have ay:=(uv tw N (Nat.le_refl _));have no:∀b,b<m->z7 N (iq p n m N (oL w N)) (bU (iq p n m N (oL w N)) N).2 b->¬HQ (bC p n m N) (Kp p n m) w:=λb hb h=>JK (c:=bC p n m N) hN ad hb h;have yes:∀s,IL m N (iq p n m N (oL w N)) s m->HQ (bC p n m N) (Kp p n m) w∧VK (bC p n m N) (Kp p n m) w (db p n) ((ayq m).map (qt w N m s.1)) (xS (xw (bC p n m N) w) w N m s.1 m) (qz (db p n) w N m s.1 m 0):=λs h=>⟨PU (c:=bC p n m N) hN hl ag ad h,Q5 (c:=bC p n m N) hN ad h (db p n)⟩
 generalize bU (iq p n m N (oL w N)) N=s at *;obtain⟨R,f⟩:=s;simp only at ay ro re no;simp only[jQ,aCm,ayj,ah,ab];refine aa.go ?_;simp only[oG,xm,ayb,aAf];simp;refine awI (ro) ?_;simp;refine aa.bB (ι:=Nat) (λi=>⟨162,oG w n m++[(9,.ro ((oL w N).map cv)),(18,.ro (R.map iu)),(19,.ro (f.map cv)),(20,iv i)],xm p w N⟩)
  (λi=>i<=m∧∀q,q<i->q<f.length∧gt f q=q) (λi=>m - i) 0 ⟨by omega,λq hq=>by omega⟩ ?_ ?_
 ·simp[aP,oG,xm,ao]
 ·rintro i ⟨hi,hq⟩;simp only[oG,xm,ayb,aAf];by_cases ae:i<m
  ·have bad:¬(i<f.length∧gt f i=i)->¬HQ (bC p n m N) (Kp p n m) w:=λh=>by
    rcases re with g | ⟨b,hb,g⟩
    ·have e:f=ayq m:=g.f;exfalso;apply h;rw[e];exact⟨by simpa using ae,by simp[gt,ae]⟩
    ·exact no b hb g
   by_cases h1:i<f.length
   ·have lf:=fI (l:=f) (i:=i) h1;have aR:¬f.length<=i:=by omega
    by_cases h2:gt f i=i
    ·rw[h2]at lf;simp(disch:=omega)[ae,h1,aR,lf,aD];repeat refine awG ?_
     refine⟨i+1,⟨by omega,λq bg=>?_⟩,by omega,Le.dE (by simp(disch:=omega)[aP,hC])⟩;by_cases e:q=i
     ·rw[e];exact⟨h1,h2⟩
     ·exact hq q (by omega)
    ·have a9:¬((gt f i:Nat):Int)=(i:Int):=by omega
     simp(disch:=omega)[ae,h1,aR,lf,a9];repeat refine awG ?_
     exact Un (bad λh=>h2 h.2)
   ·have ba:f.length<=i:=by omega
    simp(disch:=omega)[ae,ba];repeat refine awG ?_
    exact Un (bad λh=>h1 h.1)
  ·obtain rfl:i=m:=by omega
   rcases re with g | ⟨b,hb,g⟩
   ·have sh:=g.sh;have e:f=ayq i:=g.f;have el:f.length=i:=by rw[e];simp
    rw[el]at ay;have p7:2200*5^i<=171875000:=EH (Nat.le_refl _) h7;obtain⟨y1,y2⟩:=yes _ g;have fw:=Rc (f:=xw (bC p n i N) w) (g:=db p n) (w:=w) (W:=171875000) (R:=R) (by omega) (by omega) af h7 ad (λa k ha hk=>ax (ay.1.q a k ha hk) p7) (λk hk=>CQ (Kt hn hm hN hw) w hk) (λk hk=>by
     unfold db;split
     ·exact(hw.co k (by omega)).1
     ·exact cC (by omega))
    have fo:=PA p n i N 171875000 hn hm hN af h7 w hl ad ag R sh.l sh.r (by omega) (by omega) (λa k ha hk=>ax (ay.1.q a k ha hk) p7) hw;generalize (ayq i).map (qt w N i R)=B at *;generalize xS (xw (bC p n i N) w) w N i R i=X at *;generalize qz (db p n) w N i R i 0=Co at *;unfold WZ at fo;simp(disch:=omega)[];repeat refine awG ?_
    refine m5 (fo) [2] (by simp) (by simp) (by simp) (by simp) (by simp) ?_;rintro T y ⟨rfl,rfl⟩;simp;repeat refine awG ?_
    exact⟨.bM [WZ (bL w N) B X Co,.val (.bool true)],by unfold WZ;exact fV _ _ (by simp),.inl ⟨y1,B,X,Co,y2,fw,rfl⟩⟩
   ·exfalso;have:=hq b hb;rcases g.am3 with q | q
    ·omega
    ·exact q this.2
theorem Fh(p:aB)(fw:BF p)(n m N:Nat)(hn:p.ai.length=n)(hm:p.rows.length=m)(hN:n+m=N)(af:N<=14)(h7:m<=7)(hw:cW p)(w:List Int)(bb:w.length<=1048576) :
  qA ay9 34 [bX p,.ro (w.map iv)] (WV (bC p n m N) (Kp p n m) (db p n) w):=by
 refine jA Tryz.func34 rfl (by simp) (λC hC=>?_);show aa _ _ jQ _ _;refine rfA p n m N hn hm hN af w bb hC (λhl ag ad=>?_);refine rfB p n m N hm hN af w hl ad hC (λc st h=>h) ?_;refine rfC p fw n m N hn hm hN af w hl hC (λc st h=>h) ?_;exact rfD p n m N hn hm hN af h7 hw w hl ag ad hC
end Go.Proofs

