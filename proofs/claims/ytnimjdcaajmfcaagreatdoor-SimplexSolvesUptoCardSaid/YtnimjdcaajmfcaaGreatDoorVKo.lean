/- A text of the prover's own. -/
import Derived.Test.YtnimjdcaajmfcaaGreatDoorVSo
import Derived.Test.YtnimjdcaajmfcaaGreatDoorVXa
open List renaming range->ayq,map_cons->aw6,take->aBA,take_of_length_le->aAp,length_map->ay3,cons_append->ayb,getElem?_cons_zero->ayc,getElem?_cons_succ->aB9,nil_append->aAf,map_set->aAq,all_eq_false->aCa,take_length->aAr,mem_range->aBF,all_eq_true->ayG,any_eq_true->ayP,any_eq_false->aCb,getElem_of_mem->aBR
open Option.some renaming injEq->awR
open Go.Proofs.Tryz renaming prog->ay9,f126->aCc,func26->aCd
open Bool renaming and_eq_true->ayt,or_eq_true->ayH
open Rat renaming not_lt->aCe,mul_le_mul_of_nonneg_right->aCf,le_refl->aBY
namespace Go.Sx
open Go Go.Sv Go.Pl Go.Proofs Go.Tb Go.Ut Go.Mx Go.Li Go.Dt
def bC(p:aB)(n m N:Nat):Tc:=⟨p,n,m,N,fW p m,dt p m,du N n (qK p) 0⟩
def tK(p:aB)(n m N:Nat):Tb:=⟨du N N (wF p n) 0,du N n (uu p) 0,kf n m,du N N (rF n) 0,iB p N m⟩
def HH(k:Nat):Nat:=if k<=2 then k else if k=3 then 7 else if k=4 then 3 else if k=5 then 8 else k+3
theorem D1{N m k:Nat}{es:List SV}(h:k<9):j6 k es (sW N m)=sW N m:=by
 unfold sW
 induction ayq m with
 | nil=>rfl
 | cons a l ih=>simp only[aw6,j6,ih,Xa,k6];rw[if_neg (by omega)]
theorem nI{k:Nat}{es:List SV}(R:List (List Rat)):yy k es (eH R)=eH R:=by
 unfold eH
 induction R with
 | nil=>rfl
 | cons x R ih=>simp only[aw6,QE,ih];rw[dh _ _ _ (by simp)]
end Go.Sx
namespace Go.Proofs
open Go.Sv Go Go.Tb Go.Pl Go.Ut Go.Mx Go.Li Go.Dt Go.Sx
theorem xh{k:Nat}{st:St}{e:cJ}(h:aA st.M k=some e):lZ k st=⟨st.n,HJ k e.es st.fr,yy k e.es (aX st.M k (some ⟨e.sz,e.es,true⟩))⟩:=by unfold lZ;rw[h]
def Zo(p:aB)(n m N:Nat):aC:=[some ⟨11,[.agg [.dG (bS p) 0,iv n,iv m,.view 5 0 N,.view 6 0 N,.ro ((du N n (qK p) 0).map aS),.view 1 0 N,.view 2 0 N,.view 7 0 m,.view 3 0 N,.view 8 0 m]],false⟩,some ⟨1,(du N N (wF p n) 0).map iv,false⟩,some ⟨4,(du N n (uu p) 0).map aS,false⟩,some ⟨1,(du N N (rF n) 0).map iv,false⟩,some ⟨4,(du N n (qK p) 0).map aS,true⟩,some ⟨5,(fW p m).map dA,false⟩,some ⟨5,(dt p m).map dA,false⟩,some ⟨1,(kf n m).map cv,false⟩,some ⟨1,sW N m,false⟩]++eH (iB p N m)
def Yg(p:aB)(n m N:Nat):aC:=[some ⟨11,[.agg [.dG (bS p) 0,iv n,iv m,.ro ((fW p m).map dA),.view 6 0 N,.ro ((du N n (qK p) 0).map aS),.view 1 0 N,.view 2 0 N,.view 7 0 m,.view 3 0 N,.view 8 0 m]],false⟩,some ⟨1,(du N N (wF p n) 0).map iv,false⟩,some ⟨4,(du N n (uu p) 0).map aS,false⟩,some ⟨1,(du N N (rF n) 0).map iv,false⟩,some ⟨4,(du N n (qK p) 0).map aS,true⟩,some ⟨5,(fW p m).map dA,true⟩,some ⟨5,(dt p m).map dA,false⟩,some ⟨1,(kf n m).map cv,false⟩,some ⟨1,sW N m,false⟩]++eH (iB p N m)
def IZ(p:aB)(n m N:Nat):aC:=[some ⟨11,[.agg [.dG (bS p) 0,iv n,iv m,.ro ((fW p m).map dA),.ro ((dt p m).map dA),.ro ((du N n (qK p) 0).map aS),.view 1 0 N,.view 2 0 N,.view 7 0 m,.view 3 0 N,.view 8 0 m]],false⟩,some ⟨1,(du N N (wF p n) 0).map iv,false⟩,some ⟨4,(du N n (uu p) 0).map aS,false⟩,some ⟨1,(du N N (rF n) 0).map iv,false⟩,some ⟨4,(du N n (qK p) 0).map aS,true⟩,some ⟨5,(fW p m).map dA,true⟩,some ⟨5,(dt p m).map dA,true⟩,some ⟨1,(kf n m).map cv,false⟩,some ⟨1,sW N m,false⟩]++eH (iB p N m)
theorem U5(p:aB)(n m N:Nat)(hn:p.ai.length=n)(hm:p.rows.length=m)(hN:n+m=N){C:Ctx} :
  Le C ⟨217,[(0,.dG (bS p) 0),(3,.ptr 0 0 0),(4,iv N)],fR p n m N m []⟩ ⟨217,[(3,.ptr 0 0 0)],Zo p n m N⟩:=by
 refine(Le.uO 4 (e:=⟨4,(du N n (qK p) 0).map aS,false⟩) rfl (by simp)).trans ?_;rw[xh (e:=⟨4,(du N n (qK p) 0).map aS,false⟩) rfl];have tk:aBA N ((du N n (qK p) 0).map aS)=(du N n (qK p) 0).map aS:=aAp (by simp);have b4:j6 4 ((du N n (qK p) 0).map aS) (sW N m)=sW N m:=D1 (by omega);refine Le.dE ⟨rfl,?_,?_,.inl ?_⟩
 ·simp[HJ,bY,Go.Sv.get]
 ·simp[fR,Zo,tU,fS,nI,b4,tk,hN,ao]
 ·simp[fR,Zo,tU,fS,nI,b4,tk,hN]
theorem Vg(p:aB)(n m N:Nat)(hn:p.ai.length=n)(hm:p.rows.length=m)(hN:n+m=N){C:Ctx} :
  Le C ⟨217,[(3,.ptr 0 0 0)],Zo p n m N⟩ ⟨217,[(3,.ptr 0 0 0)],Yg p n m N⟩:=by
 refine(Le.uO 5 (e:=⟨5,(fW p m).map dA,false⟩) rfl (by simp)).trans ?_;rw[xh (e:=⟨5,(fW p m).map dA,false⟩) rfl];have ae:N<=(fW p m).length:=by rw[show(fW p m).length=n+m by simp[fW,rM,hn,hm]];omega
 have tk:aBA N ((fW p m).map dA)=(fW p m).map dA:=aAp (by rw[ay3,show(fW p m).length=n+m by simp[fW,rM,hn,hm]];omega);have b4:j6 5 ((fW p m).map dA) (sW N m)=sW N m:=D1 (by omega);refine Le.dE ⟨rfl,?_,?_,.inl ?_⟩
 ·simp[HJ,bY]
 ·simp[Zo,Yg,ae,nI,b4,tk,ao]
 ·simp[Zo,Yg,ae,nI,b4,tk]
theorem Vk(p:aB)(n m N:Nat)(hn:p.ai.length=n)(hm:p.rows.length=m)(hN:n+m=N){C:Ctx} :
  Le C ⟨217,[(3,.ptr 0 0 0)],Yg p n m N⟩ ⟨217,[(3,.ptr 0 0 0)],IZ p n m N⟩:=by
 refine(Le.uO 6 (e:=⟨5,(dt p m).map dA,false⟩) rfl (by simp)).trans ?_;rw[xh (e:=⟨5,(dt p m).map dA,false⟩) rfl];have ae:N<=(dt p m).length:=by rw[show(dt p m).length=n+m by simp[dt,kR,hn,hm]];omega
 have tk:aBA N ((dt p m).map dA)=(dt p m).map dA:=aAp (by rw[ay3,show(dt p m).length=n+m by simp[dt,kR,hn,hm]];omega);have b4:j6 6 ((dt p m).map dA) (sW N m)=sW N m:=D1 (by omega);refine Le.dE ⟨rfl,?_,?_,.inl ?_⟩
 ·simp[HJ,bY]
 ·simp[Yg,IZ,ae,nI,b4,tk,ao]
 ·simp[Yg,IZ,ae,nI,b4,tk]
theorem Sy(N m:Nat):dW HH (Dc N m)=sW N m:=by
 unfold Dc sW
 induction ayq m with
 | nil=>simp
 | cons a l ih=>simp only[aw6,oU,ih,R5,Xa,Qa];congr 2
theorem RP{a b:Nat}(h:HH a=HH b):a=b:=by
 unfold HH at h
 repeat' split at h
 all_goals omega
theorem Vn(p:aB)(n m N:Nat){C:Ctx}(hC:C.fx=[]):Le C ⟨217,[(3,.ptr 0 0 0)],IZ p n m N⟩ ⟨217,[(3,.ptr 0 0 0)],tT (bC p n m N) (tK p n m N) []⟩:=by
 have al:(IZ p n m N).length=m+9:=by simp[IZ]
 have am:(tT (bC p n m N) (tK p n m N) []).length=m+6:=by rw[jW (by simp[tK,bC])];rfl
 refine Le.perm hC HH rfl (λa b _ _ e=>RP e) (λk hk=>?_) (λk e hk=>?_) (λt x hg=>?_)
 ·show(IZ p n m N).length<=_;replace hk:(tT (bC p n m N) (tK p n m N) []).length<=k:=hk;rw[am]at hk;rw[al];unfold HH
  repeat' split
  all_goals omega
 ·replace hk:(tT (bC p n m N) (tK p n m N) [])[k]?=some (some e):=hk;show(IZ p n m N)[HH k]?=_
  match k,hk with
  | 0,hk=>simp only[tT,tH,ayb,ayc,awR]at hk;subst hk;simp[IZ,HH,fP,tS,bC]
  | 1,hk=>simp only[tT,tH,ayb,aB9,ayc,awR]at hk;subst hk;simp[IZ,HH,fP,tK]
  | 2,hk=>simp only[tT,tH,ayb,aB9,ayc,awR]at hk;subst hk;simp[IZ,HH,fP,tK]
  | 3,hk=>simp only[tT,tH,ayb,aB9,ayc,awR]at hk;subst hk;simp[IZ,HH,fP,tK]
  | 4,hk=>simp only[tT,tH,ayb,aB9,ayc,awR]at hk;subst hk;simp[IZ,HH,fP,tK]
  | 5,hk=>simp only[tT,tH,ayb,aB9,ayc,awR]at hk;subst hk;simp[IZ,HH,fP,bC,Sy]
  | k+6,hk =>
   simp only[tT,tH,ayb,aAf,aB9,List.append_nil,tK]at hk;rw[show HH (k+6)=k+9 by unfold HH;rw[if_neg (by omega),if_neg (by omega),if_neg (by omega),if_neg (by omega)]];simp only[IZ,ayb,aAf,aB9];rw[hk];unfold eH at hk;rw[List.getElem?_map]at hk
   match h:(iB p N m)[k]?,hk with
   | some r,hk=>simp at hk;rw[<-hk];simp[fP]
 ·simp only[Go.Sv.get]at hg ⊢;split at hg
  ·rename_i e;rw[if_pos e];cases hg;simp[HH]
  ·simp at hg
end Go.Proofs
set_option maxRecDepth 10000
namespace Go.Sx
open Go Go.Sv Go.Pl Go.Proofs Go.Tb Go.Ut Go.Mx Go.Li Go.Dt
theorem Lf{k:Nat}{st:St}{e:cJ}(h:aA st.M k=some e):lZ k st=⟨st.n,HJ k e.es st.fr,yy k e.es (aX st.M k (some ⟨e.sz,e.es,true⟩))⟩:=by unfold lZ;rw[h]
theorem R6{N m k:Nat}{es:List SV}(h:m+6<=k):j6 k es (Dc N m)=Dc N m:=by
 unfold Dc;rw[JL];refine List.map_congr_left λi hi=>?_;have hi:i<m:=by simpa using hi
 simp only[R5,k6];rw[if_neg (by omega)]
theorem W5{c:Tc}{s:Tb}{k:Nat}{es:List SV}{tl:aC}(h:c.m+6<=k):yy k es (tT c s tl)=tT c s (yy k es tl):=by
 unfold tT;rw[lA,lA,nI];congr 1;have n1:¬1=k:=by omega
 have n2:¬2=k:=by omega
 have n3:¬3=k:=by omega
 have n4:¬4=k:=by omega
 have n5:¬5=k:=by omega
 have b:=R6 (N:=c.N) (m:=c.m) (es:=es) h;simp[tH,tS,n1,n2,n3,n4,n5,b]
theorem Sr{c:Tc}{s:Tb}(hR:s.R.length=c.m){N0:Nat}{fr:List (Nat × SV)}{tl:aC}(i:Nat){e:cJ}(he:aA tl i=some e) :
  lZ (c.m+6+i) ⟨N0,fr,tT c s tl⟩=⟨N0,HJ (c.m+6+i) e.es fr,tT c s (yy (c.m+6+i) e.es (aX tl i (some ⟨e.sz,e.es,true⟩)))⟩:=by
 rw[Lf (e:=e) (by show aA (tT c s tl) _=_;rw[DR hR,he])];show St.mk _ _ (yy _ _ (aX (tT c s tl) _ _))=_;rw[KV hR,W5 (by omega)]
theorem DM{C:Ctx}{c:Tc}{s:Tb}(hR:s.R.length=c.m){N0:Nat}{fr:List (Nat × SV)}{tl:aC}(i:Nat){e:cJ}(he:aA tl i=some e)(hp:SV.bF e.es=true) :
  Le C ⟨N0,fr,tT c s tl⟩ ⟨N0,HJ (c.m+6+i) e.es fr,tT c s (yy (c.m+6+i) e.es (aX tl i (some ⟨e.sz,e.es,true⟩)))⟩:=by
 have:=Le.uO (C:=C) (st:=⟨N0,fr,tT c s tl⟩) (c.m+6+i) (e:=e) (by show aA (tT c s tl) _=_;rw[DR hR,he]) hp
 rwa [Sr hR i he]at this
theorem OY{α:Type}[Inhabited α]{N j:Nat}{f:Nat->α}{d:α}(h:f j=d):du N j f d=du N (j+1) f d:=bV (by simp) λk hk=>by
 have hk:k<N:=by simpa using hk
 rw[jL hk,jL hk];by_cases e:k=j
 ·subst e;rw[if_neg (by omega),if_pos (by omega),h]
 ·by_cases q:k<j
  ·rw[if_pos q,if_pos (by omega)]
  ·rw[if_neg q,if_neg (by omega)]
def vP(c:Tc)(s:Tb)(i:Nat):Rat:=if gt s.wh (c.n+i)=1 then 0 else if c.p.max=true then -(dN c s (c.n+i) c.m) else dN c s (c.n+i) c.m
end Go.Sx
namespace Go.Proofs
open Go.Sv Go Go.Tb Go.Pl Go.Ut Go.Mx Go.Li Go.Dt Go.Sx
theorem GF(c:Tc)(K:(Nat->Rat)->Prop)(hc:qe c)(hW:HW c K)(hV:Wd 2200 c.cost)(hN:c.n+c.m=c.N)(s:Tb)(hs:fm c K s) :
  kZ ay9 126 [.ptr 0 0 0] (tT c s []) [] (λT v=>T=tT c s []∧v=.ro (((ayq c.m).map (vP c s)).map aS)):=by
 have h7:=hc.m7;have aq:=hc.ur;have hR:=hs.t.R;have ag:=hs.t.w;refine iG Tryz.func126 rfl (by simp) (λC hC=>?_);have fx:=qm hR hC;refine aa.cutAt 3 (λst=>st=⟨53,[(0,.ptr 0 0 0),(3,.view (c.m+6) 0 c.m)],tT c s [some ⟨4,(du c.m c.m (vP c s) 0).map aS,false⟩]⟩) ?_ ?_
 rotate_left 1
 ·rintro st rfl;have h1:=DM (C:=C) (c:=c) (s:=s) (N0:=53) (fr:=[(0,.ptr 0 0 0),(3,.view (c.m+6) 0 c.m)]) (tl:=[some ⟨4,(du c.m c.m (vP c s) 0).map aS,false⟩]) hR 0 rfl (by simp);refine aa.le h1 ?_;simp only[aCc,ah,ab];simp only[aX,tT,tH,tS,ayb,aAf];refine aa.go ?_;simp;have tk:aBA c.m ((du c.m c.m (vP c s) 0).map aS)=((ayq c.m).map (vP c s)).map aS:=by
   rw[aAp (by simp)];congr 1;refine bV (by simp) λk hk=>?_;have hk:k<c.m:=by simpa using hk
   rw[jL hk,if_pos hk,aV _ hk]
  refine⟨_,_,⟨rfl,rfl⟩,?_,by simpa[tT,tH,tS]using rD c s [some ⟨4,(du c.m c.m (vP c s) 0).map aS,true⟩],by simp,.inr ⟨by simp,?_⟩⟩
  ·rw[tk];simp
  ·have:=qQ (c:=c) (s:=s) hR;simpa[tT,tH,tS]using this
 simp only[aCc,aN,aL];simp only[tT,tH,tS,ayb,aAf];simp(disch:=omega)[hR];repeat refine awG ?_
 have z0:ig (.agg [.val (.bool false),.val (.slice none 0 0),.val (.bool false),.val (.slice none 0 0)])=aS 0:=by rw[<-ou];rfl
 refine aa.le (tD (c:=c) (N0:=53) (fr':=[(0,.ptr 0 0 0),(3,.view (c.m+6) 0 c.m),(12,iv c.m),(13,iv 0)]) (tl:=[some ⟨4,List.replicate c.m (.agg [.val (.bool false),.val (.slice none 0 0),.val (.bool false),.val (.slice none 0 0)]),false⟩]) (tl':=[some ⟨4,(du c.m 0 (vP c s) 0).map aS,false⟩]) s hR fx (by simp[Aa,bY,Go.Sv.get]) (by simp[p9,z0,vQ]) (by simp[gK,SV.lt]) (by simp[eA])) ?_;refine aa.bB (ι:=Nat) (λi=>⟨53,[(0,.ptr 0 0 0),(3,.view (c.m+6) 0 c.m),(12,iv c.m),(13,iv i)],tT c s [some ⟨4,(du c.m i (vP c s) 0).map aS,false⟩]⟩)
  (λi=>i<=c.m) (λi=>c.m - i) 0 (by simp) ?_ ?_
 ·exact⟨rfl,by simp[bY,Go.Sv.get],ao _,.inl rfl⟩
 ·rintro i hi;by_cases ac:i<c.m
  ·have hk:c.n+i<c.N:=by omega
   have lw:=cf (l:=s.wh) (i:=c.n+i) (by omega);have uset:=ef (N:=c.m) (j:=i) (f:=vP c s) (d:=0);have af:=OY (N:=c.m) (j:=i) (f:=vP c s) (d:=0);have ul:=Rm c.m i (vP c s) 0;generalize hU:du c.m i (vP c s) 0=U at *;simp only[tT,tH,tS,ayb,aAf];by_cases e1:gt s.wh (c.n+i)=1
   ·rw[e1]at lw;simp(disch:=omega)[ac,hk,lw,ag,aD];repeat refine awG ?_
    refine⟨i+1,by omega,by omega,?_⟩;rw[<-af (by unfold vP;rw[if_pos e1])];exact Le.dE ⟨rfl,by simp(disch:=omega)[bY,Go.Sv.get],ao _,.inl rfl⟩
   ·simp(disch:=omega)[ac,hk,lw,ag,e1,aD];repeat refine awG ?_
    refine ek (tl:=[_]) (vI c s hc hs.t (W:=171875000) (V:=2200) (hW _ _ hs.d hs.t.Rr) hV (by omega) (by omega) hk) hR (by simp) (by simp) ?_;rintro T1 y ⟨rfl,rfl⟩;refine⟨s,rfl,hR,by simp,?_⟩;simp only[tT,tH,tS,ayb,aAf];simp(disch:=omega)[cN hR,cV hR,ac,ul,-aAq];repeat refine awG ?_
    have l2:aM ((U.set i (dN c s (c.n+i) c.m)).map aS) i=aS (dN c s (c.n+i) c.m):=by rw[ch (by rw[List.length_set];omega),bE (by omega),if_pos rfl]
    have lU:=ch (l:=U) (i:=i) (by omega);cases hm:c.p.max with
    | true =>
     simp(disch:=omega)[ac,ul,lU,l2,hm,bS,cx, -aAq];repeat refine awG ?_
     refine awI (jK (dN c s (c.n+i) c.m)) ?_;simp(disch:=omega)[cN hR,cV hR,ac,ul,l2,cx,aD,List.set_set, -aAq];repeat refine awG ?_
     refine⟨i+1,by omega,by omega,?_⟩;rw[<-uset];unfold vP;rw[if_neg e1,if_pos hm];exact Le.dE ⟨rfl,by simp(disch:=omega)[bY,Go.Sv.get],ao _,.inl rfl⟩
    | false =>
     simp(disch:=omega)[ac,ul,lU,l2,hm,bS,cx,aD, -aAq];repeat refine awG ?_
     refine⟨i+1,by omega,by omega,?_⟩;rw[<-uset];unfold vP;rw[if_neg e1,if_neg (by simp[hm])];exact Le.dE ⟨rfl,by simp(disch:=omega)[bY,Go.Sv.get],ao _,.inl rfl⟩
  ·obtain rfl:i=c.m:=by omega
   simp only[tT,tH,tS,ayb,aAf];simp(disch:=omega)[];repeat refine awG ?_
   exact⟨rfl,by simp[bY,Go.Sv.get],ao _,.inl rfl⟩
end Go.Proofs
set_option maxRecDepth 10000
namespace Go.Li
open Go Go.Sv Go.Pl Go.Proofs Go.Tb Go.Ut
theorem F5(p:aB):bA p=0∨bA p=2∨bA p=7∨bA p=4:=by
 unfold bA;split
 ·exact .inr (.inl rfl)
 ·split
  ·exact .inr (.inr (.inl rfl))
  ·split
   ·exact .inr (.inr (.inr rfl))
   ·exact .inl rfl
theorem Nd(p:aB)(h:bA p≠0):0<bA p∧bA p<=10:=by rcases F5 p with e | e | e | e<;>omega
theorem oR{p:aB}(h:bA p=0):p.rows.length<=120∧p.ai.length<=120∧∀i,i<p.rows.length->gH p.ai.length (-1) (gt p.rows i).aI=false:=by
 unfold bA at h;split at h
 ·cases h
 ·split at h
  ·cases h
  ·split at h
   ·cases h
   ·rename_i h1 h2 h3;refine⟨by omega,by omega,λi hi=>?_⟩;cases hb:gH p.ai.length (-1) (gt p.rows i).aI with
    | false=>rfl
    | true=>exact absurd (yS hi hb) h3
theorem VN{s:dS}(h:QN s):BF (ee s) where
 nc:=by simp[ee];exact h.nc
 nr:=by simp[ee];exact h.nr
 nt:=λi hi=>by
  have ad:i<s.rows.length:=by simpa[ee]using hi
  unfold ee;rw[jr _ ad];have h1:=(h.rows i ad).ai;have h2:=rC (gt s.rows i);simp only[rowOf,ay3];omega
theorem KW(s:ByteArray):qw 2200 (nY s).at':=by
 unfold nY;split
 ·exact cC _ (by omega)
 ·exact Ed _
theorem Fk(s:dS):cW (ee s) where
 sh:=Ed _
 co:=λj hj=>by
  have an:j<s.ai.length:=by simpa[ee]using hj
  unfold ee;rw[jr _ an];exact⟨Ed _,KW _,KW _⟩
 ro:=λi hi=>by
  have ad:i<s.rows.length:=by simpa[ee]using hi
  unfold ee;rw[jr _ ad];exact⟨KW _,KW _⟩
 te:=λi hi k hk=>by
  have ad:i<s.rows.length:=by simpa[ee]using hi
  unfold ee at hk ⊢;rw[jr _ ad]at hk ⊢;simp only[rowOf,ay3]at hk ⊢;rw[jr _ hk];exact Ed _
end Go.Li
namespace Go.Proofs
open Go.Sv Go Go.Tb Go.Pl Go.Ut Go.Li
/-! the second file of laws -/
theorem HP{α:Type}[Inhabited α]{l:List α}{f:α->Bool}{i:Nat}(h:i<l.length)(hf:f (gt l i)=false):l.all f=false:=by rw[aCa];exact⟨_,iW h,by simp[hf]⟩
theorem AY{α:Type}[Inhabited α]{l:List α}{f:α->Bool}{i:Nat}(h:i<l.length)(ha:(l.take i).all f=true)(hf:f (gt l i)=true):(l.take (i+1)).all f=true:=by rw[mg _ h,ha,hf];rfl
def qN(l:List ByteArray):Bool:=decide (l.length<=40)&&l.all λs=>decide (s.size<=24)
theorem uh(l:List ByteArray)(hl:l.length<=1048576)(hs:∀i,i<l.length->(gt l i).size<=1048576):aE ay9 27 [.ro (l.map fN)] (.val (.bool (qN l))):=by
 refine aj Tryz.func27 rfl (by simp) (λC hC=>?_);simp;refine⟨λc=>by simp[qN];omega,λc=>?_⟩;refine aa.bB (ι:=Nat) (λi=>⟨19,[(0,.ro (l.map fN)),(3,iv i)],[]⟩)
  (λi=>i<=l.length∧(l.take i).all (λs=>decide (s.size<=24))=true) (λi=>l.length - i) 0 (by simp) ?_ ?_
 ·simp[aP,hC]
 ·rintro i ⟨hi,ha⟩;by_cases aR:i<l.length
  ·have:=hs i aR;simp(disch:=omega)[aR,ri,aD];repeat refine awG ?_
   refine⟨λq=>?_,λq=>⟨i+1,⟨by omega,?_⟩,by omega,Le.dE (by simp(disch:=omega)[aP,hC])⟩⟩
   ·unfold qN;rw[HP aR (by simp;omega)];simp
   ·simpa using AY aR ha (by simp;omega)
  ·obtain rfl:i=l.length:=by omega
   rw[aAr]at ha;unfold qN;rw[ha];simp;omega
theorem MB{c:Nat}(hc:0<c)(ar:c<=10)(n:Int):Bp ay9 36 [II c,iv n] (λx=>x=.val (.bool (decide ((c:Int)=n)))):=by
 refine qM Tryz.func36 rfl (by simp) (λC hC hX hE=>?_);refine aa.go ?_;have cs:=Nv (j:=c - 1) (by omega);have e:II c=.fT fD (gs (c - 1)):=by unfold II;rw[if_neg (by omega)]
 rw[show c - 1+1=c by omega]at cs;rw[e];simp;refine P7 cs hE hX (by simp) (λx hx=>?_);subst hx;simp
def s0:ByteArray:=⟨#[48]⟩
def s1:ByteArray:=⟨#[49]⟩
def s2:ByteArray:=⟨#[50]⟩
def s3:ByteArray:=⟨#[51]⟩
def s4:ByteArray:=⟨#[52]⟩
def s5:ByteArray:=⟨#[53]⟩
def s6:ByteArray:=⟨#[54]⟩
def sx:ByteArray:=⟨#[120]⟩
def sy:ByteArray:=⟨#[121]⟩
def Q2:ByteArray:=⟨#[111,110,101]⟩
def pd:dS:=⟨true,s0,[⟨sx,false,s0,s4,s3⟩,⟨sy,false,s0,s4,s5⟩],[⟨Q2,e0,s6,[0,1],[s1,s2]⟩]⟩
theorem OX:aE ay9 32 [] (fJ pd):=by refine nB Tryz.func32 rfl (by simp) (λC hC=>?_);simp;refine⟨_,(Le.uO 3 rfl rfl).trans ((Le.uO 4 rfl rfl).trans ((Le.uO 2 rfl rfl).trans (Le.uO 5 rfl rfl))),?_⟩;simp[lZ,aX,pd,fJ,rI,lq,s0,s1,s2,s3,s4,s5,s6,sx,sy,Q2,e0];rfl
def shC(c:mL):Bool:=qN [c.low,c.high,c.cost]
def WQ(r:jF):Bool:=qN r.jD&&qN [r.low,r.high]&&decide (r.ai.length=r.jD.length)
def v8(s:dS):Bool:=decide (s.ai.length<=7)&&decide (s.rows.length<=7)&&decide (s.shift.size<=24)&&s.ai.all shC&&s.rows.all WQ
theorem K8(s:dS)(h:QN s):aE ay9 73 [fJ s] (.val (.bool (v8 s))):=by
 have nc:=h.nc;have nr:=h.nr;have ns:=h.shift;refine aj Tryz.func73 rfl (by simp) (λC hC=>?_);simp;refine⟨λc1=>⟨λc2=>⟨λc3=>by simp[v8];omega,λc3=>?_⟩,λc2=>by simp[v8];omega⟩,λc1=>by simp[v8];omega⟩;refine aa.bB (ι:=Nat) (λi=>⟨84,[(1,.ptr 0 0 0),(3,iv i)],[some ⟨4,[fJ s],false⟩]⟩)
  (λi=>i<=s.ai.length∧(s.ai.take i).all shC=true) (λi=>s.ai.length - i) 0 (by simp) ?_ ?_
 ·simp[aP,hC]
 ·rintro i ⟨hi,ha⟩;by_cases aR:i<s.ai.length
  ·have hc:=h.ai i aR;simp(disch:=omega)[aR,xF];repeat refine awG ?_
   refine bz (uh [(gt s.ai i).low,(gt s.ai i).high,(gt s.ai i).cost] (by simp) (λk hk=>?_)) (by simp) ?_
   ·match k,hk with
    | 0,_=>exact hc.low
    | 1,_=>exact hc.high
    | 2,_=>exact hc.cost
   simp(disch:=omega)[aD];repeat refine awG ?_
   rw[show qN [(gt s.ai i).low,(gt s.ai i).high,(gt s.ai i).cost]=shC (gt s.ai i) from rfl];refine⟨λhb=>?_,λhb=>⟨i+1,⟨by omega,by simpa using AY aR ha hb⟩,by omega,Le.dE (by simp(disch:=omega)[aP,hC])⟩⟩;unfold v8;rw[HP aR hb];simp
  ·obtain rfl:i=s.ai.length:=by omega
   rw[aAr]at ha;simp;refine aa.bB (ι:=Nat) (λi=>⟨84,[(1,.ptr 0 0 0),(6,iv i)],[some ⟨4,[fJ s],false⟩]⟩)
    (λi=>i<=s.rows.length∧(s.rows.take i).all WQ=true) (λi=>s.rows.length - i) 0 (by simp) ?_ ?_
   ·simp[aP,hC]
   ·rintro i ⟨hi,hb⟩;by_cases aR:i<s.rows.length
    ·have hr:=h.rows i aR;have no:=λ(q:WQ (gt s.rows i)=false)=>show v8 s=false by unfold v8;rw[HP aR q];simp
     simp(disch:=omega)[aR,wV];repeat refine awG ?_
     refine bz (uh (gt s.rows i).jD hr.jD.n (λk hk=>hr.jD.s _ (iW hk))) (by simp) ?_;simp;refine bz (uh [(gt s.rows i).low,(gt s.rows i).high] (by simp) (λk hk=>?_)) (by simp) ?_
     ·match k,hk with
      | 0,_=>exact hr.low
      | 1,_=>exact hr.high
     have:=hr.ai;have:=hr.jD.n;simp(disch:=omega)[aD];repeat refine awG ?_
     refine⟨λq1=>⟨λq2=>⟨λq3=>no ?_,λq3=>?_⟩,λq2=>no ?_⟩,λq1=>no ?_⟩
     ·unfold WQ;simp;omega
     ·refine⟨i+1,⟨by omega,?_⟩,by omega,Le.dE (by simp(disch:=omega)[aP,hC])⟩;simpa using AY aR hb (by unfold WQ;simp[q1,q2];omega)
     ·unfold WQ;simp[q2]
     ·unfold WQ;simp[q1]
    ·obtain rfl:i=s.rows.length:=by omega
     rw[aAr]at hb;simp[v8,ha,hb];omega
theorem Ln(s:dS)(h:QN s)(hf:v8 s=false):aE ay9 26 [fJ s] (.bM [.val (.pointer none),.agg [.val (.bool false),.val (.bool false),.ro [],.val (.bool false),.ro [],.ro [],.ro []],.val (.bool false)]):=by have g:=K8 s h;rw[hf]at g;refine aj aCd rfl (by simp) (λC hC=>?_);simp;refine awI (g) ?_;simp
theorem KT(s:dS)(h:QN s)(hf:v8 s=true):aE ay9 26 [fJ s] (.bM [.dG (bS (ee s)) 0,tq s,.val (.bool (QK s))]):=by have g:=K8 s h;rw[hf]at g;refine aj aCd rfl (by simp) (λC hC=>?_);simp;refine awI (g) ?_;simp;refine awI (PM s h) ?_;simp;refine awI (Fi s h) ?_;simp;refine aa.awH (.qs [0,1,2,3]<|.l 4 [1]<|.qs [5]<|.nil) ?_;simp
end Go.Proofs
namespace Go.Li
open Go Go.Sv Go.Pl Go.Proofs Go.Tb Go.Ut
theorem n0:num s0=0:=by decide +kernel
theorem n1:num s1=1:=by decide +kernel
theorem n2:num s2=2:=by decide +kernel
theorem n3:num s3=3:=by decide +kernel
theorem n4:num s4=4:=by decide +kernel
theorem n5:num s5=5:=by decide +kernel
theorem n6:num s6=6:=by decide +kernel
def P1:aB:=⟨true,0,[⟨sx,false,⟨true,0⟩,⟨true,4⟩,3⟩,⟨sy,false,⟨true,0⟩,⟨true,4⟩,5⟩],[⟨Q2,[⟨0,1⟩,⟨1,2⟩],⟨false,0⟩,⟨true,6⟩⟩]⟩
theorem Ak:ee pd=P1:=by
 have e:∀s:ByteArray,ko s=false->nY s=⟨true,num s⟩:=λs h=>by unfold nY;rw[h];rfl
 have e':nY e0=⟨false,0⟩:=rfl;simp[ee,pd,P1,rn,rowOf,gY,uk,n0,n1,n2,n3,n4,n5,n6,e s0 (by decide),e s4 (by decide),e s6 (by decide),e']
theorem FV:QK pd=true:=by decide +kernel
theorem LF:v8 pd=true:=by decide +kernel
theorem iJ:bA P1=0:=by unfold bA;decide +kernel
theorem Oo:QN pd where
 shift:=by decide
 nc:=by decide
 nr:=by decide
 ai:=λi hi=>by
  match i,hi with
  | 0,_=>exact⟨by decide,by decide,by decide,by decide⟩
  | 1,_=>exact⟨by decide,by decide,by decide,by decide⟩
 rows:=λi hi=>by
  match i,hi with
  | 0,_=>exact⟨by decide,by decide,by decide,by decide,⟨by decide,λx hx=>by
    have ap:x=s1∨x=s2:=by simpa[pd,gt]using hx
    rcases ap with e | e<;>rw[e]<;>decide⟩⟩
end Go.Li
namespace Go.Proofs
open Go.Sv Go Go.Tb Go.Pl Go.Ut Go.Li
end Go.Proofs
namespace Go.Li
open Go Go.Sv Go.Pl Go.Proofs Go.Tb Go.Ut
def AM(x:List Rat)(ts:List Term):Nat->Rat
 | 0=>0
 | k+1=>AM x ts k+(gt ts k).num*gt x (gt ts k).iP.toNat
def gO(p:aB)(x:List Rat):Nat->Rat
 | 0=>p.shift
 | j+1=>gO p x j+(gt p.ai j).cost*gt x j
def E1(q:Rat)(low high:Bo):Bool:=!(low.has&&decide (q<low.at'))&&!(high.has&&decide (high.at'<q))
def Gd(p:aB)(x:List Rat)(whole:Bool)(j:Nat):Bool:=E1 (gt x j) (gt p.ai j).low (gt p.ai j).high&&!(whole&&(gt p.ai j).whole&&!decide ((gt x j).den=1))
def Tk(p:aB)(x:List Rat)(i:Nat):Bool:=E1 (AM x (gt p.rows i).aI (gt p.rows i).aI.length) (gt p.rows i).low (gt p.rows i).high
def gE(p:aB)(x:List Rat)(whole:Bool):Bool:=(ayq p.ai.length).all (Gd p x whole)&&(ayq p.rows.length).all (Tk p x)
theorem Ea{n i:Nat}{f:Nat->Bool}(h:i<n)(hf:f i=false):(ayq n).all f=false:=by rw[aCa];exact⟨i,aBF.2 h,by simp[hf]⟩
theorem rZ{n:Nat}{f:Nat->Bool}(h:∀i,i<n->f i=true):(ayq n).all f=true:=by rw[ayG];exact λi hi=>h i (aBF.1 hi)
theorem Zs{P:Nat->Prop}{i:Nat}(h:∀k,k<i->P k)(hi:P i):∀k,k<i+1->P k:=λk hk=>by
 rcases Nat.lt_or_ge k i with h' | h'
 ·exact h k h'
 ·obtain rfl:k=i:=by omega
  exact hi
theorem Cf{p:aB}{x:List Rat}{w:Bool}(h1:∀k,k<p.ai.length->Gd p x w k=true)(h2:∀k,k<p.rows.length->Tk p x k=true):gE p x w=true:=by unfold gE;rw[rZ h1,rZ h2];rfl
theorem Ma{p:aB}{x:List Rat}{w:Bool}{j:Nat}(hj:j<p.ai.length)(h:Gd p x w j=false):gE p x w=false:=by unfold gE;rw[Ea hj h];rfl
theorem L7{p:aB}{x:List Rat}{w:Bool}{j:Nat}(hj:j<p.rows.length)(h:Tk p x j=false):gE p x w=false:=by unfold gE;rw[Ea hj h];simp
theorem FB{p:aB}(hw:cW p)(hv:bA p=0){x:List Rat}(hl:x.length=p.ai.length){i:Nat}(hi:i<p.rows.length):∀k,k<(gt p.rows i).aI.length->qw 2200 (gt (gt p.rows i).aI k).num∧0<=(gt (gt p.rows i).aI k).iP∧(gt (gt p.rows i).aI k).iP<x.length:=λk hk=>by obtain⟨h1,h2, -, -⟩:=Eg ((oR hv).2.2 i hi) k hk;exact⟨hw.te i hi k hk,by omega,by omega⟩
end Go.Li
namespace Go.Proofs
open Go.Sv Go Go.Tb Go.Pl Go.Ut Go.Li
theorem AB(q:Rat)(a b:Bo)(hq:j4 q)(ha:j4 a.at')(hb:j4 b.at'):aE ay9 79 [aZ q,nZ a,nZ b] (.val (.bool (E1 q a b))):=by
 refine aj Tryz.func79 rfl (by simp) (λC hC=>?_);simp;refine⟨λh1=>?_,λh1=>⟨λh2=>?_,λh2=>by simp[E1,h1,h2]⟩⟩
 ·rw[ka h1];refine awI (FO q a.at' hq ha) ?_;simp;refine⟨λq1=>by simp[E1,h1,q1],λq1=>⟨λh2=>?_,λh2=>by simp[E1,h1,h2,q1]⟩⟩;rw[ka h2];refine awI (FO q b.at' hq hb) ?_;simp;exact⟨λq2=>by simp[E1,h1,h2,q1,q2],λq2=>by simp[E1,h1,h2,q1,q2]⟩
 ·rw[ka h2];refine awI (FO q b.at' hq hb) ?_;simp;exact⟨λq2=>by simp[E1,h1,h2,q2],λq2=>by simp[E1,h1,h2,q2]⟩
theorem FE(p:aB)(x:List Rat)(hl:x.length≠p.ai.length)(whole:Bool):aE ay9 30 [bX p,.ro (x.map aZ),dr whole] (dr false):=by refine aj Tryz.func30 rfl (by simp) (λC hC=>?_);simp;exact λq=>by omega
/-! the program's -/
end Go.Proofs
namespace Go.Li
open Go Go.Sv Go.Pl Go.Proofs Go.Tb Go.Ut
def cI(f:Nat->Rat):Nat->Rat
 | 0=>0
 | n+1=>cI f n+f n
theorem tZ{f g:Nat->Rat}{n:Nat}(h:∀j,j<n->f j=g j):cI f n=cI g n:=by
 induction n with
 | zero=>rfl
 | succ n ih=>simp only[cI];rw[ih λj hj=>h j (by omega),h n (by omega)]
theorem OK{f g:Nat->Rat}{n:Nat}:cI (λj=>f j - g j) n=cI f n - cI g n:=by
 induction n with
 | zero=>simp only[cI];grind
 | succ n ih=>simp only[cI];rw[ih];grind
theorem Pm{f:Nat->Rat}{c:Rat}{n:Nat}:cI (λj=>c*f j) n=c*cI f n:=by
 induction n with
 | zero=>simp[cI]
 | succ n ih=>simp only[cI];rw[ih];grind
theorem PZ{f g:Nat->Rat}{n:Nat}:cI (λj=>f j+g j) n=cI f n+cI g n:=by
 induction n with
 | zero=>simp only[cI];grind
 | succ n ih=>simp only[cI];rw[ih];grind
theorem J7{c:Nat}{v:Rat}:∀{n:Nat},cI (λj=>if j=c then v else 0) n=if c<n then v else 0
 | 0=>by simp[cI]
 | n+1=>by
  simp only[cI];rw[J7];by_cases h:n=c
  ·subst h;rw[if_neg (by omega),if_pos rfl,if_pos (by omega)];grind
  ·rw[if_neg h];by_cases h':c<n
   ·rw[if_pos h',if_pos (by omega)];grind
   ·rw[if_neg h',if_neg (by omega)];grind
theorem Cg{n:Nat}{ts:List Term}(hb:gH n (-1) ts=false)(x:List Rat):∀k,k<=ts.length->cI (λj=>gt x j*cY (ts.take k) j) n=AM x ts k
 | 0,_=>by
  have:cI (λj=>gt x j*cY (ts.take 0) j) n=cI (λ_=>0) n:=tZ λj _=>by simp[cY]
  rw[this];have z:∀m,cI (λ_=>0) m=0:=λm=>by
   induction m with
   | zero=>rfl
   | succ m ih=>simp only[cI];rw[ih];grind
  rw[z];rfl
 | k+1,hk=>by
  obtain⟨h1,h2,h3,h4⟩:=Eg hb k (by omega);have ih:=Cg hb x k (by omega);have e:∀j,j<n->gt x j*cY (ts.take (k+1)) j=gt x j*cY (ts.take k) j+if j=(gt ts k).iP.toNat then(gt ts k).num*gt x (gt ts k).iP.toNat else 0:=λj hj=>by
   rw[hO (show k<ts.length by omega),Di];by_cases e:j=(gt ts k).iP.toNat
   ·have e':(gt ts k).iP=(j:Int):=by omega
    have hn:∀k',k'<(ts.take k).length->(gt (ts.take k) k').iP≠(j:Int):=λk' ak=>by
     simp only[List.length_take]at ak;have e2:gt (ts.take k) k'=gt ts k':=by rw[<-dY (by simpa using ak),List.getElem_take,dY (by omega)]
     have:=h4 k' (by omega);rw[e2];omega
    rw[if_pos e',if_pos hn,if_pos e,Ju hn,e];grind
   ·have e':¬(gt ts k).iP=(j:Int):=by omega
    rw[if_neg e',if_neg e];grind
  rw[tZ e,PZ,ih,J7,if_pos (by omega)];rfl
theorem Bm{n:Nat}{ts:List Term}(hb:gH n (-1) ts=false)(x:List Rat):cI (λj=>gt x j*cY ts j) n=AM x ts ts.length:=by
 have:=Cg hb x ts.length (Nat.le_refl _)
 rwa [aAr]at this
def jw(p:aB)(x:List Rat)(i:Nat):Rat:=AM x (gt p.rows i).aI (gt p.rows i).aI.length
theorem VW{p:aB}(hb:∀i,i<p.rows.length->gH p.ai.length (-1) (gt p.rows i).aI=false)(x y:List Rat):∀i,i<=p.rows.length ->
  cI (λj=>gt x j*dP p y j i) p.ai.length=cI (λj=>gt x j*(gt p.ai j).cost) p.ai.length - cI (λk=>gt y k*jw p x k) i
 | 0,_=>by simp only[cI,dP];grind
 | i+1,hi=>by
  have ih:=VW hb x y i (by omega);have e:∀j,j<p.ai.length->gt x j*dP p y j (i+1)=gt x j*dP p y j i - gt y i*(gt x j*cY (gt p.rows i).aI j):=λj _=>by simp only[dP];grind
  rw[tZ e,OK,Pm,ih,Bm (hb i (by omega)) x];simp only[cI,jw];grind
theorem uX(p:aB)(x:List Rat):∀j,gO p x j=p.shift+cI (λk=>gt x k*(gt p.ai k).cost) j
 | 0=>by simp only[gO,cI];grind
 | j+1=>by simp only[gO,cI];rw[uX p x j];grind
/-! between two ends -/
def Oc(s:Sp)(q:Rat):Prop:=(s.lo.has=true->s.lo.at'<=q)∧(s.hi.has=true->q<=s.hi.at')
theorem nq{q:Rat}{a b:Bo}:E1 q a b=true↔(a.has=true->a.at'<=q)∧(b.has=true->q<=b.at'):=by
 unfold E1;simp only[ayt,Bool.not_eq_true',Bool.and_eq_false_iff,decide_eq_false_iff_not,aCe];constructor
 ·rintro⟨h1,h2⟩;refine⟨λh=>?_,λh=>?_⟩
  ·rcases h1 with h1 | h1
   ·rw[h]at h1;cases h1
   ·exact h1
  ·rcases h2 with h2 | h2
   ·rw[h]at h2;cases h2
   ·exact h2
 ·rintro⟨h1,h2⟩;refine⟨?_,?_⟩
  ·by_cases h:a.has=true
   ·exact .inr (h1 h)
   ·exact .inl (by simpa using h)
  ·by_cases h:b.has=true
   ·exact .inr (h2 h)
   ·exact .inl (by simpa using h)
theorem uZ{a b:Bo}{r:Rat}(h:(fK a b r).has=true):a.has=true∧b.has=true∧(fK a b r).at'=a.at'+b.at'*r:=by
 unfold fK at h ⊢;by_cases c:a.has=true∧b.has=true
 ·rw[if_pos c];exact⟨c.1,c.2,rfl⟩
 ·rw[if_neg c]at h;cases h
theorem CN{s:Sp}{q z r:Rat}{low high:Bo}(hs:Oc s q)(hz:E1 z low high=true):Oc (eY s low high r) (q+z*r):=by
 obtain⟨z1,z2⟩:=nq.1 hz;unfold eY;by_cases h0:r=0
 ·rw[if_pos h0,h0];have:q+z*0=q:=by grind
  rwa [this]
 ·rw[if_neg h0];by_cases h1:r<0
  ·rw[if_pos h1];refine⟨λh=>?_,λh=>?_⟩
   ·obtain⟨g1,g2,g3⟩:=uZ h;show(fK s.lo high r).at'<=_;rw[g3];have m:=aCf (z2 g2) (show 0 <= -r by grind);have:=hs.1 g1;grind
   ·obtain⟨g1,g2,g3⟩:=uZ h;show _<=(fK s.hi low r).at';rw[g3];have m:=aCf (z1 g2) (show 0 <= -r by grind);have:=hs.2 g1;grind
  ·rw[if_neg h1];have hr:0<=r:=aCe.1 h1;refine⟨λh=>?_,λh=>?_⟩
   ·obtain⟨g1,g2,g3⟩:=uZ h;show(fK s.lo low r).at'<=_;rw[g3];have m:=aCf (z1 g2) hr;have:=hs.1 g1;grind
   ·obtain⟨g1,g2,g3⟩:=uZ h;show _<=(fK s.hi high r).at';rw[g3];have m:=aCf (z2 g2) hr;have:=hs.2 g1;grind
theorem sG{p:aB}{x:List Rat}{w:Bool}(h:gE p x w=true){j:Nat}(hj:j<p.ai.length):E1 (gt x j) (gt p.ai j).low (gt p.ai j).high=true:=by unfold gE at h;simp only[ayt,ayG,aBF]at h;have:=h.1 j hj;unfold Gd at this;simp only[ayt]at this;exact this.1
theorem xB{p:aB}{x:List Rat}{w:Bool}(h:gE p x w=true){i:Nat}(hi:i<p.rows.length):E1 (jw p x i) (gt p.rows i).low (gt p.rows i).high=true:=by unfold gE at h;simp only[ayt,ayG,aBF]at h;exact h.2 i hi
theorem PG{p:aB}{x:List Rat}(y:List Rat)(h:gE p x false=true):∀i,i<=p.rows.length->Oc (BG p y i) (p.shift+cI (λk=>gt y k*jw p x k) i)
 | 0,_=>by
  have e:p.shift+cI (λk=>gt y k*jw p x k) 0=p.shift:=by simp only[cI];grind
  rw[e];exact⟨λ_=>aBY,λ_=>aBY⟩
 | i+1,hi=>by
  have:=CN (r:=gt y i) (PG y h i (by omega)) (xB h (i:=i) (by omega));have e:p.shift+cI (λk=>gt y k*jw p x k) (i+1)=p.shift+cI (λk=>gt y k*jw p x k) i+jw p x i*gt y i:=by simp only[cI];grind
  rw[e];exact this
theorem NC{p:aB}{x:List Rat}(y:List Rat)(h:gE p x false=true):∀j,j<=p.ai.length->Oc (BJ p y j) (p.shift+cI (λk=>gt y k*jw p x k) p.rows.length+cI (λk=>gt x k*dP p y k p.rows.length) j)
 | 0,_=>by
  have e:p.shift+cI (λk=>gt y k*jw p x k) p.rows.length+cI (λk=>gt x k*dP p y k p.rows.length) 0=p.shift+cI (λk=>gt y k*jw p x k) p.rows.length:=by simp only[cI];grind
  rw[e];exact PG y h _ (Nat.le_refl _)
 | j+1,hj=>by
  have:=CN (r:=dP p y j p.rows.length) (NC y h j (by omega)) (sG h (j:=j) (by omega));have e:p.shift+cI (λk=>gt y k*jw p x k) p.rows.length+cI (λk=>gt x k*dP p y k p.rows.length) (j+1)=p.shift+cI (λk=>gt y k*jw p x k) p.rows.length+cI (λk=>gt x k*dP p y k p.rows.length) j+gt x j*dP p y j p.rows.length:=by simp only[cI];grind
  rw[e];exact this
theorem afJ{p:aB}(hv:bA p=0){x:List Rat}(y:List Rat)(h:gE p x false=true):Oc (BJ p y p.ai.length) (gO p x p.ai.length):=by
 have h1:=NC y h p.ai.length (Nat.le_refl _);rw[VW (oR hv).2.2 x y p.rows.length (Nat.le_refl _)]at h1;rw[uX];have e:p.shift+cI (λk=>gt y k*jw p x k) p.rows.length+(cI (λj=>gt x j*(gt p.ai j).cost) p.ai.length - cI (λk=>gt y k*jw p x k) p.rows.length)=p.shift+cI (λk=>gt x k*(gt p.ai k).cost) p.ai.length:=by grind
 rwa [e]at h1
/-! nothing holds -/
def jN(a b:Bo):Bool:=a.has&&b.has&&decide (b.at'<a.at')
def jb(p:aB):Bool:=p.ai.any (λc=>jN c.low c.high)||p.rows.any λr=>jN r.low r.high
def free(p:aB):aB:=⟨p.max,p.shift,p.ai.map λc=>{ c with cost:=0 },p.rows⟩
def JS(p:aB)(y:List Rat):Nat->Sp
 | 0=>⟨⟨true,0⟩,⟨true,0⟩⟩
 | i+1=>eY (JS p y i) (gt p.rows i).low (gt p.rows i).high (gt y i)
def Me(p:aB)(y:List Rat):Nat->Sp
 | 0=>⟨⟨true,0⟩,⟨true,0⟩⟩
 | j+1=>eY (Me p y j) (gt p.ai j).low (gt p.ai j).high (-(dP (free p) y j p.rows.length))
def GA(a b:Bo):Bool:=a.has&&b.has&&decide (b.at'<a.at')
def ym(p:aB)(y:List Rat):Bool:=GA (JS p y p.rows.length).lo (Me p y p.ai.length).hi
theorem Da(p:aB):(free p).ai.length=p.ai.length:=by simp[free]
theorem xj{p:aB}{j:Nat}(h:j<p.ai.length):gt (free p).ai j={ gt p.ai j with cost:=0 }:=by unfold free;rw[jr _ h]
end Go.Li
namespace Go.Sv
open Go
end Go.Sv
namespace Go.Li
open Go Go.Sv Go.Pl Go.Proofs Go.Tb Go.Ut
structure kB where
 kind:Int
 x:List Rat
 y:List Rat
 kj:List Rat
 value:Rat
structure tI where
 kind:Int
 x:List ByteArray
 y:List ByteArray
 kj:List ByteArray
 value:ByteArray
def lS(c:kB):SV:=.agg ([iv c.kind,.ro (c.x.map aS),.ro (c.y.map aS),.ro (c.kj.map aS)]++(aS c.value).cells)
@[simp] theorem ajk(c:kB):(lS c).ir=8:=rfl
@[simp] theorem XP(c:kB):(lS c).aW=false:=rfl
@[simp] theorem Ze(c:kB):(lS c).isAgg=true:=rfl
@[simp] theorem aaK(c:kB):(lS c).pure=true:=rfl
@[simp] theorem alo(n:Nat)(c:kB):(lS c).lt n=true:=rfl
@[simp] theorem an0(c:kB):aM (lS c).cells 0=iv c.kind:=rfl
@[simp] theorem al1(c:kB):aM (lS c).cells 1=.ro (c.x.map aS):=rfl
@[simp] theorem alh(c:kB):aM (lS c).cells 2=.ro (c.y.map aS):=rfl
@[simp] theorem alL(c:kB):aM (lS c).cells 3=.ro (c.kj.map aS):=rfl
@[simp] theorem anl(c:kB):SV.agg (((lS c).cells.drop 4).take 4)=aS c.value:=rfl
def LY(c:tI):SV:=.agg ([iv c.kind,.ro (c.x.map fN),.ro (c.y.map fN),.ro (c.kj.map fN),fN c.value])
@[simp] theorem ag3(c:tI):(LY c).ir=5:=rfl
@[simp] theorem X2(c:tI):(LY c).aW=false:=rfl
@[simp] theorem XY(c:tI):(LY c).isAgg=true:=rfl
@[simp] theorem afI(c:tI):(LY c).pure=true:=rfl
@[simp] theorem anu(c:tI):aM (LY c).cells 0=iv c.kind:=rfl
@[simp] theorem amV(c:tI):aM (LY c).cells 1=.ro (c.x.map fN):=rfl
@[simp] theorem anU(c:tI):aM (LY c).cells 2=.ro (c.y.map fN):=rfl
@[simp] theorem ank(c:tI):aM (LY c).cells 3=.ro (c.kj.map fN):=rfl
@[simp] theorem ama(c:tI):aM (LY c).cells 4=fN c.value:=rfl
structure ClW(c:kB):Prop where
 x:Wd 2200 c.x
 y:Wd 2200 c.y
 r:Wd 2200 c.kj
 v:qw 2200 c.value
 nx:c.x.length<=1048576
 ny:c.y.length<=1048576
 nr:c.kj.length<=1048576
structure atW(c:tI):Prop where
 x:Zw c.x
 y:Zw c.y
 r:Zw c.kj
 v:c.value.size<=1048576
def kY(p:aB)(x:List Rat):Bool:=decide (x.length=p.ai.length)&&gE p x false
def tu(p:aB)(c:kB):Bool:=(kY p c.x&&decide (c.y.length=p.rows.length)&&decide (c.kj.length=0))&&((nO p c.y).has&&decide (gO p c.x p.ai.length=c.value)&&decide ((nO p c.y).at'=gO p c.x p.ai.length))
def nH(p:aB)(c:kB):Bool:=(decide (c.x.length=0)&&decide (c.kj.length=0)&&decide (c.value=0))&&(if c.y.length=0 then jb p else decide (c.y.length=p.rows.length)&&ym p c.y)
theorem cR{α:Type}(f:α->SV)(l:List α):kT (l.map f)=l.map λx=>ig (f x):=by
 induction l with
 | nil=>rfl
 | cons a l ih=>simp[ih]
def OZ(c:xZ):SV:=.agg (.val (.string c.name)::.val (.bool c.whole)::((dA c.low).cells++((dA c.high).cells++[.val (.bool false),.val (.slice none 0 0),.val (.bool false),.val (.slice none 0 0)])))
theorem YR(c:xZ):ig (OZ c)=jv { c with cost:=0 }:=by
 have e:ig (OZ c)=.agg (.val (.string c.name)::.val (.bool c.whole)::((dA c.low).cells++((dA c.high).cells++[.val (.bool false),.ro [],.val (.bool false),.ro []]))):=rfl;rw[e];have r:(aS 0).cells=[.val (.bool false),.ro [],.val (.bool false),.ro []]:=by rw[<-ou];rfl
 show _=SV.agg (.val (.string c.name)::.val (.bool c.whole)::((dA c.low).cells++((dA c.high).cells++(aS 0).cells)));rw[r]
def frL(p:aB)(j:Nat):List SV:=(ayq p.ai.length).map λi=>if i<j then OZ (gt p.ai i) else jv (gt p.ai i)
theorem Jg{p:aB}(h:cW p):cW (free p):=⟨h.sh,λj hj=>by rw[Da]at hj;rw[xj hj];exact⟨ax (fG (n:=0) (by omega) (by omega)) (by omega),(h.co j hj).2⟩,h.ro,h.te⟩
def yz(low high:Bo)(r:Rat):Bool:=!(decide (0<r)&&high.has)&&!(decide (r<0)&&low.has)
def jc(p:aB)(x:List Rat):Nat->Rat
 | 0=>0
 | j+1=>jc p x j+(gt p.ai j).cost*gt x j
def Bw(p:aB)(x:List Rat)(j:Nat):Bool:=yz (gt p.ai j).low (gt p.ai j).high (gt x j)
def Hn(p:aB)(x:List Rat)(i:Nat):Bool:=yz (gt p.rows i).low (gt p.rows i).high (jw p x i)
def sV(p:aB)(c:kB):Bool:=(kY p c.x&&decide (c.kj.length=p.ai.length)&&decide (c.y.length=0)&&decide (c.value=0))&&((ayq p.ai.length).all (Bw p c.kj)&&(ayq p.rows.length).all (Hn p c.kj))&&(decide (jc p c.kj p.ai.length≠0)&&(decide (0<jc p c.kj p.ai.length)==p.max))
def uw(p:aB)(c:kB):Bool:=if c.kind=1 then tu p c else if c.kind=2 then nH p c else if c.kind=3 then sV p c else false
end Go.Li
namespace Go.Proofs
open Go.Sv Go Go.Tb Go.Pl Go.Ut Go.Li
theorem Bl{p:aB}{j:Nat}(hj:j<p.ai.length)(h:jN (gt p.ai j).low (gt p.ai j).high=true):jb p=true:=by unfold jb;rw[ayH,ayP];exact .inl ⟨_,iW hj,h⟩
theorem yb{p:aB}{j:Nat}(hj:j<p.rows.length)(h:jN (gt p.rows j).low (gt p.rows j).high=true):jb p=true:=by unfold jb;rw[ayH,ayP,ayP];exact .inr ⟨_,iW hj,h⟩
theorem Gm{p:aB}(h1:∀j,j<p.ai.length->jN (gt p.ai j).low (gt p.ai j).high=false)(h2:∀j,j<p.rows.length->jN (gt p.rows j).low (gt p.rows j).high=false):jb p=false:=by
 unfold jb;rw[Bool.or_eq_false_iff];refine⟨aCb.2 λc hc=>?_,aCb.2 λr hr=>?_⟩
 ·obtain⟨j,hj,rfl⟩:=aBR hc;rw[dY hj,h1 j hj];simp
 ·obtain⟨j,hj,rfl⟩:=aBR hr;rw[dY hj,h2 j hj];simp
end Go.Proofs

