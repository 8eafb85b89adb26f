/- A text of the prover's own. -/
import Derived.Test.YtnimjdcaajmfcaaGreatDoorVKo
open List renaming range->ayq,cons_append->ayb,nil_append->aAf,map_set->aAq,replicate->awQ,map_replicate->aCg,map_map->aBC
open Go.Proofs.Tryz renaming prog->ay9,f123->aCh
open Option renaming getD_some->ayj
set_option maxRecDepth 10000
namespace Go.Sx
open Go Go.Sv Go.Pl Go.Proofs Go.Tb Go.Ut Go.Mx Go.Li Go.Dt
def k7(c:Tc)(z:kB)(Y:List Rat):aC:=[some ⟨1,[.ptr 0 0 0],false⟩,some ⟨8,[lS z],false⟩,some ⟨4,Y.map aS,false⟩,some ⟨1,[.view (c.m+8) 0 c.m],false⟩]
def Dy(Y:List Rat)(n k:Nat)(v:Rat):List Rat:=if n<=k then Y.set (k - n) v else Y
theorem DB(Y:List Rat)(n d:Nat)(v:Rat):Dy Y n (n+d) v=Y.set d v:=by unfold Dy;rw[if_pos (by omega),Nat.add_sub_cancel_left]
theorem EY{Y:List Rat}{n k:Nat}{v:Rat}(h:k<n):Dy Y n k v=Y:=if_neg (by omega)
@[simp] theorem acH(Y:List Rat)(n k:Nat)(v:Rat):(Dy Y n k v).length=Y.length:=by unfold Dy;split<;>simp
theorem xq(c:Tc)(s:Tb){A B:aC}(h:fj A B):fj (tT c s A) (tT c s B):=mP (tH c s) (mP _ h)
theorem PQ{c:Tc}{s:Tb}{A:aC}(h:s.R.length=c.m)(hA:eA (c.m+6+A.length) A):eA (tT c s A).length (tT c s A):=by rw[jW h];refine nR ?_ (nR (pH _ _) hA);have:=sf (N:=c.N) (m:=c.m) (k:=c.m+6+A.length) (by omega);simp[tH,tS,eA,this];omega
def dD(k:Int):SV:=.agg [iv k,.val (.slice none 0 0),.val (.slice none 0 0),.val (.slice none 0 0),.val (.bool false),.val (.slice none 0 0),.val (.bool false),.val (.slice none 0 0)]
theorem CI{c:Tc}(s:Tb)(z:kB)(Y:List Rat):whole (c.m+10) (tT c s (k7 c z Y)):=by have:=sf (N:=c.N) (m:=c.m) (k:=c.m+10) (by omega);refine oz (tH c s) _ ?_ (oz _ _ (Cl _ _) (by simp[k7,whole]));simp[tH,tS,whole,this]
def Ha(c:Tc)(s:Tb)(i k:Nat):List Rat:=du c.m (k - c.n) (λq => -(gt (gt s.R i) (c.n+q))) 0
@[simp] theorem JC(c:Tc)(s:Tb)(i k:Nat):(Ha c s i k).length=c.m:=by simp[Ha]
theorem O4(c:Tc)(s:Tb)(i k:Nat):Dy (Ha c s i k) c.n k (-(gt (gt s.R i) k))=Ha c s i (k+1):=by
 by_cases h:c.n<=k
 ·obtain⟨d,rfl⟩:∃d,k=c.n+d:=⟨k - c.n,by omega⟩;rw[DB];unfold Ha;rw[Nat.add_sub_cancel_left,show c.n+d+1 - c.n=d+1 by omega];exact ef (f:=λq => -(gt (gt s.R i) (c.n+q)))
 ·rw[EY (by omega)];unfold Ha;rw[show k - c.n=0 by omega,show k+1 - c.n=0 by omega]
def HI(c:Tc)(s:Tb)(i q:Nat):Rat:=if gt s.basic i=c.n+q then 1 else -(gt (gt s.R i) (c.n+q))
theorem SO(c:Tc)(s:Tb)(i:Nat)(hN:c.n+c.m=c.N):Dy (Ha c s i c.N) c.n (gt s.basic i) 1=(ayq c.m).map (HI c s i):=by
 refine bV (by simp) λk hk=>?_;have hk:k<c.m:=by simpa using hk
 rw[aV _ hk];unfold HI;by_cases h:c.n<=gt s.basic i
 ·obtain⟨d,hd⟩:∃d,gt s.basic i=c.n+d:=⟨gt s.basic i - c.n,by omega⟩;rw[hd,DB,bE (by simpa using hk)];by_cases e:d=k
  ·rw[if_pos e,if_pos (by omega)]
  ·rw[if_neg e,if_neg (by omega),Ha,jL hk,if_pos (by omega)]
 ·rw[EY (by omega),Ha,jL hk,if_pos (by omega),if_neg (by omega)]
def BP(c:Tc)(s:Tb)(i:Nat)(ac:Bool)(q:Nat):Rat:=if ac=true then HI c s i q else -(HI c s i q)
def MW(c:Tc)(s:Tb)(i k q:Nat):Rat:=if q<k then -(HI c s i q) else HI c s i q
end Go.Sx
namespace Go.Proofs
open Go.Sv Go Go.Tb Go.Pl Go.Ut Go.Mx Go.Li Go.Dt Go.Sx
theorem U3(c:Tc)(s:Tb)(hR:s.R.length=c.m)(hN:c.n+c.m=c.N)(h7:c.m<=7)(ad:c.N<=14){k:Nat}(hk:k<c.N)(v:Rat)(z:kB)(Y:List Rat)(hY:Y.length=c.m) :
  kZ ay9 172 [iv k,aS v,.ptr (c.m+6) 0 0,.ptr (c.m+9) 0 0] (tT c s (k7 c z Y)) [] (λT y=>T=tT c s (k7 c z (Dy Y c.n k v))∧y=.bM []):=by
 refine gV Tryz.func172 rfl (by simp) (λC hC=>?_);simp only[tT,tH,tS,k7,ayb,aAf];simp(disch:=omega)[hR,cN hR];repeat refine awG ?_
 refine⟨λhn=>?_,λhn=>?_⟩
 ·obtain⟨d,rfl⟩:∃d,k=c.n+d:=⟨k - c.n,by omega⟩;have sub:(((c.n+d:Nat):Int) - (c.n:Int))=(d:Int):=by omega
  have lY:=ch (l:=Y) (i:=d) (by omega);have hd:d<c.m:=by omega
  refine aa.awH (.qs [0,1,2,3,4,5,6,7,8]<|.l 9 [c.m+8]<|.nil) ?_;simp(disch:=omega)[hR,cN hR,eP hR,eQ hR,hY,aD,hd,lY,cx, -aAq];repeat refine awG ?_
  rw[DB];refine⟨_,_,⟨rfl,rfl⟩,rfl,?_,by simp[hR],.inr ⟨by simp,?_⟩⟩
  ·exact xq c s (A:=k7 c z (Y.set d v)++[some ⟨4,[aS v],false⟩]) (B:=k7 c z (Y.set d v)) (zy _ _)
  ·exact PQ (s:=s) (A:=k7 c z (Y.set d v)) hR (by simp[k7,eA,SV.lt, -aAq])
 ·rw[EY hn];refine⟨_,_,⟨rfl,rfl⟩,rfl,?_,by simp[hR],.inr ⟨by simp,?_⟩⟩
  ·exact xq c s (A:=k7 c z Y++[some ⟨4,[aS v],false⟩]) (B:=k7 c z Y) (zy _ _)
  ·exact PQ (s:=s) (A:=k7 c z Y) hR (by simp[k7,eA,SV.lt])
theorem KI{C:Ctx}{c:Tc}{s:Tb}{tl:aC}(hR:s.R.length=c.m)(hN:c.n+c.m=c.N)(h7:c.m<=7)(ad:c.N<=14){k:Nat}(hk:k<c.N){v:Rat}{z:kB}{Y:List Rat}(hY:Y.length=c.m){W:Option (List Nat)}{K:aC->List Nat->SV->Prop}
  (hW:∀ks,W=some ks->∀k,k<17->k∈ks) (hK:K (tT c s (k7 c z (Dy Y c.n k v)++tl)) [] (.bM [])) :
  dK ay9 C 172 [iv k,aS v,.ptr (c.m+6) 0 0,.ptr (c.m+9) 0 0] (tT c s (k7 c z Y++tl)) W K:=by
 have e:∀Y,tT c s (k7 c z Y++tl)=tT c s (k7 c z Y)++tl:=λY=>by simp[tT]
 have hl:∀Y,(tT c s (k7 c z Y)).length=c.m+10:=λY=>by rw[jW hR];rfl
 rw[e];refine Kq (U3 c s hR hN h7 ad hk v z Y hY) (by rw[hl];exact CI s z Y) (by rw[hl];simp) (λks q k hk=>hW ks q k (by rw[hl]at hk;omega)) ?_;rintro T1 y ⟨rfl,rfl⟩;rw[e]at hK;exact⟨by rw[hl];exact CI s z _,by rw[hl,hl],by rw[hl];simp,hK⟩
noncomputable def dB:Code:=aCh.body.getD .skip
def l7(m:Nat):SV:=.j7 172 [] [.ptr (m+6) 0 0,.ptr (m+9) 0 0]
def qC(m i:Nat)(ac:Bool):List (Nat × SV):=[(0,.ptr 0 0 0),(1,iv i),(2,dr ac),(3,.ptr (m+6) 0 0),(6,.ptr (m+7) 0 0),(7,.ptr (m+9) 0 0),(8,l7 m)]
def jq:kB:=⟨0,[],[],[],0⟩
theorem afc{c:Tc}{s:Tb}(hR:s.R.length=c.m)(h7:c.m<=7){i:Nat}(ac:Bool){C:Ctx}(fx:∀k∈C.fx,k<c.m+6){Q:bf}(af:∀c st,¬Q (.panic c) st)
  (hn:aa ay9 C (bh 3 dB) ⟨65,qC c.m i ac,tT c s (k7 c jq (awQ c.m 0))⟩ Q) :
  aa ay9 C dB ⟨65,[(0,.ptr 0 0 0),(1,iv i),(2,dr ac)],tT c s []⟩ Q:=by
 refine aa.cutAt 3 (λst=>st=⟨65,qC c.m i ac,tT c s [some ⟨1,[.ptr 0 0 0],false⟩,some ⟨8,[dD 0],false⟩,some ⟨4,awQ c.m (.agg [.val (.bool false),.val (.slice none 0 0),.val (.bool false),.val (.slice none 0 0)]),false⟩,some ⟨1,[.view (c.m+8) 0 c.m],false⟩]⟩) ?_ ?_
 rotate_left 1
 ·rintro st rfl;refine aa.le ?_ hn;have z0:ig (.agg [.val (.bool false),.val (.slice none 0 0),.val (.bool false),.val (.slice none 0 0)])=aS 0:=by rw[<-ou];rfl
  have e3:∀l r,ig (.j7 172 l r)=.j7 172 l r:=λ_ _=>rfl;have e4:ig (dD 0)=lS jq:=by have:lS jq=.agg (iv 0::.ro []::.ro []::.ro []::(aS 0).cells):=rfl;rw[this,<-ou];rfl
  refine tD s hR fx (by simp[bY,Go.Sv.get,qC,l7,Aa,e3]) ?_ (by simp[gK,qC,l7,k7,SV.lt]) (by simp[k7,eA,SV.lt, -aCg]);simp[k7,p9,z0,e4]
 simp only[dB,aCh,ayj,aN,aL];simp only[tT,tH,tS,ayb,aAf];simp(disch:=omega)[hR,cN hR,eP hR,eQ hR];repeat refine awG ?_
 exact⟨rfl,by simp[bY,Go.Sv.get,qC,l7],ao _,.inl rfl⟩
theorem nH{c:Tc}{s:Tb}(t:wg c s)(hc:qe c)(hN:c.n+c.m=c.N){i:Nat}(hi:i<c.m)(ac:Bool){C:Ctx}(fx:∀k∈C.fx,k<c.m+6){Q:bf}(af:∀c st,¬Q (.panic c) st)
  (hn:aa ay9 C (bh 4 dB) ⟨65,qC c.m i ac,tT c s (k7 c jq (Ha c s i c.N))⟩ Q) :
  aa ay9 C (bh 3 dB) ⟨65,qC c.m i ac,tT c s (k7 c jq (awQ c.m 0))⟩ Q:=by
 have h7:=hc.m7;have ad:=hc.ur;have hR:=t.R;have al:=gM (N:=c.N) (m:=c.m) (i:=i) hi;have tg:=λtl:aC=>fE (C:=s.R) (tl:=tl) (e:=i) (by omega);have Ri:=t.Rr i hi;refine aa.cutAt 1 (λst=>st=⟨65,qC c.m i ac,tT c s (k7 c jq (Ha c s i c.N))⟩) ?_ ?_
 rotate_left 1
 ·rintro st rfl;simp only[dB,aCh,ayj,ah,ab]at hn ⊢;exact hn
 clear hn;simp only[dB,aCh,ayj,ah,ab,aN,aL];simp only[tT,tH,tS,k7,qC,l7,ayb,aAf];simp(disch:=omega)[cN hR,hi,al,-aCg];repeat refine awG ?_
 refine aa.bB (ι:=Nat) (λk=>⟨65,qC c.m i ac++[(24,.view (i+6) 0 c.N),(25,iv c.N),(26,iv k)],tT c s (k7 c jq (Ha c s i k))⟩)
  (λk=>k<=c.N) (λk=>c.N - k) 0 (by simp) ?_ ?_
 ·have e:awQ c.m (0:Rat)=Ha c s i 0:=by unfold Ha;rw[show 0 - c.n=0 by omega,vQ]
  rw[e];exact⟨rfl,by simp[bY,Go.Sv.get,qC,l7],ao _,.inl rfl⟩
 ·rintro k hk;by_cases ak:k<c.N
  ·have lj:=ch (l:=gt s.R i) (i:=k) (by omega);have nx:=O4 c s i k;have nl:=JC c s i k;generalize Ha c s i k=Y at *;simp only[tT,tH,tS,k7,qC,l7,ayb,aAf];simp(disch:=omega)[hR,eP hR,eQ hR,ak,tg,Ri,lj];repeat refine awG ?_
   refine awI (jK (gt (gt s.R i) k)) ?_;simp(disch:=omega)[];repeat refine awG ?_
   refine KI (c:=c) (s:=s) (tl:=[_]) (k:=k) (v := -(gt (gt s.R i) k)) (z:=jq) (Y:=Y) hR hN h7 ad ak nl (by simp) ?_;rw[nx];simp;refine⟨k+1,by omega,by omega,?_⟩;exact fv s hR fx (by simp(disch:=omega)[bY,Go.Sv.get,aD]) (by simp[k7,fj]) (by simp[gK,SV.lt];omega) (by simp[eA,SV.lt])
  ·obtain rfl:k=c.N:=by omega
   simp only[tT,tH,tS,k7,qC,l7,ayb,aAf];simp(disch:=omega)[];repeat refine awG ?_
   exact⟨rfl,by simp[bY,Go.Sv.get],ao _,.inl rfl⟩
theorem abx{c:Tc}{s:Tb}(t:wg c s)(hc:qe c)(hN:c.n+c.m=c.N){i:Nat}(hi:i<c.m)(ac:Bool){C:Ctx}{Q:bf}(af:∀c st,¬Q (.panic c) st)
  (hn:aa ay9 C (bh 5 dB) ⟨65,qC c.m i ac,tT c s (k7 c jq ((ayq c.m).map (HI c s i)))⟩ Q) :
  aa ay9 C (bh 4 dB) ⟨65,qC c.m i ac,tT c s (k7 c jq (Ha c s i c.N))⟩ Q:=by
 have h7:=hc.m7;have ad:=hc.ur;have hR:=t.R;have hb:=t.b;have bb:=t.bb i hi;have lb:=fI (l:=s.basic) (i:=i) (by omega);have all:=SO c s i hN;have nl:=JC c s i c.N;refine aa.cutAt 1 (λst=>st=⟨65,qC c.m i ac,tT c s (k7 c jq ((ayq c.m).map (HI c s i)))⟩) ?_ ?_
 rotate_left 1
 ·rintro st rfl;simp only[dB,aCh,ayj,ah,ab]at hn ⊢;exact hn
 clear hn;rw[<-all];generalize Ha c s i c.N=Y at *;simp only[dB,aCh,ayj,ah,ab,aN,aL];simp only[tT,tH,tS,k7,qC,l7,ayb,aAf];refine aa.draw (.qs [0,1,2,3,4,5,6,7]<|.l 8 []<|.l 9 [1000000,0,1,2,3,4,5,6,7,8,9,10,11,12,13,14,15,16]<|.nil) (by kernel_rfl) (by kernel_rfl) (by simp[af]) ?_;simp(disch:=omega)[cN hR,hi,hb,lb];repeat refine awG ?_
 have one:=Du 1 (by omega) (by omega);rw[show((1:Int):Rat)=1 from rfl]at one;refine awI (one) ?_;simp(disch:=omega)[];repeat refine awG ?_
 refine KI (c:=c) (s:=s) (tl:=[]) (k:=gt s.basic i) (v:=1) (z:=jq) (Y:=Y) hR hN h7 ad bb nl (by intro ks e k hk;cases e;simp;omega) ?_;simp;exact⟨rfl,by simp[bY,Go.Sv.get],xq c s (ao _),.inl (by simp[tT,tH,k7])⟩
theorem acL{c:Tc}{s:Tb}(t:wg c s)(hc:qe c){i:Nat}(ac:Bool){C:Ctx}(fx:∀k∈C.fx,k<c.m+6){Q:bf}(af:∀c st,¬Q (.panic c) st)
  (hn:aa ay9 C (bh 6 dB) ⟨65,qC c.m i ac,tT c s (k7 c jq ((ayq c.m).map (BP c s i ac)))⟩ Q) :
  aa ay9 C (bh 5 dB) ⟨65,qC c.m i ac,tT c s (k7 c jq ((ayq c.m).map (HI c s i)))⟩ Q:=by
 have h7:=hc.m7;have ad:=hc.ur;have hR:=t.R;refine aa.cutAt 1 (λst=>st=⟨65,qC c.m i ac,tT c s (k7 c jq ((ayq c.m).map (BP c s i ac)))⟩) ?_ ?_
 rotate_left 1
 ·rintro st rfl;simp only[dB,aCh,ayj,ah,ab]at hn ⊢;exact hn
 clear hn;simp only[dB,aCh,ayj,ah,ab,aN,aL];cases ac with
 | true =>
  have e:BP c s i true=HI c s i:=funext λq=>if_pos rfl;rw[e];simp only[tT,tH,tS,k7,qC,l7,ayb,aAf];simp(disch:=omega)[];repeat refine awG ?_
  exact⟨rfl,by simp[bY,Go.Sv.get],ao _,.inl rfl⟩
 | false =>
  simp only[tT,tH,tS,k7,qC,l7,ayb,aAf];simp(disch:=omega)[eP hR,-aBC];refine aa.bB (ι:=Nat) (λk=>⟨65,qC c.m i false++[(50,iv c.m),(51,iv k)],tT c s (k7 c jq ((ayq c.m).map (MW c s i k)))⟩)
   (λk=>k<=c.m) (λk=>c.m - k) 0 (by simp) ?_ ?_
  ·have e:HI c s i=MW c s i 0:=funext λq=>by unfold MW;rw[if_neg (by omega)]
   rw[e];exact⟨rfl,by simp[bY,Go.Sv.get,qC,l7],ao _,.inl rfl⟩
  ·rintro k hk;by_cases ag:k<c.m
   ·have nx:((ayq c.m).map (MW c s i k)).set k (-(HI c s i k))=(ayq c.m).map (MW c s i (k+1)):=bV (by simp) λq hq=>by
     have hq:q<c.m:=by simpa using hq
     rw[bE (by simpa using hq),aV _ hq,aV _ hq];unfold MW;by_cases e:k=q
     ·subst e;rw[if_pos rfl,if_pos (by omega)]
     ·rw[if_neg e];by_cases g:q<k
      ·rw[if_pos g,if_pos (by omega)]
      ·rw[if_neg g,if_neg (by omega)]
    have gk:gt ((ayq c.m).map (MW c s i k)) k=HI c s i k:=by rw[aV _ ag];unfold MW;rw[if_neg (by omega)]
    have yl:((ayq c.m).map (MW c s i k)).length=c.m:=by simp
    generalize (ayq c.m).map (MW c s i k)=Y at *;have lY:=ch (l:=Y) (i:=k) (by omega);rw[gk]at lY;simp only[tT,tH,tS,k7,qC,l7,ayb,aAf];simp(disch:=omega)[ag, -aBC];repeat refine awG ?_
    refine aa.draw (.qs [0,1,2,3,4,5]<|.l 6 []<|.qs [7]<|.l 8 [c.m+8]<|.nil) (by kernel_rfl) (by kernel_rfl) (by simp[af]) ?_;simp(disch:=omega)[eP hR,ag,yl,lY, -aBC];repeat refine awG ?_
    refine awI (jK (HI c s i k)) ?_;simp(disch:=omega)[eP hR,eQ hR,ag,yl,lY,cx,aD, -aAq, -aBC];repeat refine awG ?_
    rw[nx];refine⟨k+1,by omega,by omega,?_⟩;exact Le.dE ⟨rfl,by simp(disch:=omega)[bY,Go.Sv.get],xq c s (ao _),.inl (by simp[])⟩
   ·obtain rfl:k=c.m:=by omega
    have e:(ayq c.m).map (MW c s i c.m)=(ayq c.m).map (BP c s i false):=List.map_congr_left λq hq=>by
     have hq:q<c.m:=by simpa using hq
     unfold MW BP;rw[if_pos hq,if_neg (by simp)]
    rw[e];simp only[tT,tH,tS,k7,qC,l7,ayb,aAf];simp(disch:=omega)[-aBC];exact⟨rfl,by simp[bY,Go.Sv.get],ao _,.inl rfl⟩
theorem afC{c:Tc}{s:Tb}(t:wg c s)(hc:qe c){i:Nat}(ac:Bool){ys:List Rat}(hy:ys.length=c.m){C:Ctx}(fx:∀k∈C.fx,k<c.m+6) :
  aa ay9 C (bh 6 dB) ⟨65,qC c.m i ac,tT c s (k7 c jq ys)⟩ (im ay9 [.cell 6 80] [] (sY (tT c s []) [] (λT v=>T=tT c s []∧v=lS ⟨2,[],ys,[],0⟩))):=by
 have h7:=hc.m7;have hR:=t.R;have h1:=DM (C:=C) (c:=c) (s:=s) (N0:=65) (fr:=qC c.m i ac) (tl:=k7 c jq ys) hR 2 (e:=⟨4,ys.map aS,false⟩) rfl (by simp);refine aa.le h1 ?_;have n1:¬c.m+7=c.m+6+2:=by omega
 have n2:c.m+8=c.m+6+2:=by omega
 have tk:List.take c.m (ys.map aS)=ys.map aS:=List.take_of_length_le (by simp[hy]);refine aa.cutAt 1 (λst=>st=⟨65,[(6,.ptr (c.m+7) 0 0)],tT c s [some ⟨1,[.ptr 0 0 0],false⟩,some ⟨8,[.agg [iv 2,.val (.slice none 0 0),.ro (ys.map aS),.val (.slice none 0 0),.val (.bool false),.val (.slice none 0 0),.val (.bool false),.val (.slice none 0 0)]],false⟩]⟩) ?_ ?_
 ·simp only[dB,aCh,ayj,ah,ab,aN,aL];simp only[aX,tT,tH,tS,k7,qC,l7,ayb,aAf];simp[tk,n2,show c.m<=ys.length by omega,eP hR,eQ hR];exact tF s hR fx (by simp[bY,Go.Sv.get]) (by simp[fj]) (by simp[gK,SV.lt]) (by simp[eA,SV.lt])
 ·rintro st rfl;refine aa.le (st':=⟨65,[(6,.ptr (c.m+7) 0 0)],tT c s [some ⟨1,[.ptr 0 0 0],false⟩,some ⟨8,[lS ⟨2,[],ys,[],0⟩],false⟩]⟩) ?_ ?_
  ·have e4:ig (.agg [iv 2,.val (.slice none 0 0),.ro (ys.map aS),.val (.slice none 0 0),.val (.bool false),.val (.slice none 0 0),.val (.bool false),.val (.slice none 0 0)])=lS ⟨2,[],ys,[],0⟩:=by
    have:lS ⟨2,[],ys,[],0⟩=.agg (iv 2::.ro []::.ro (ys.map aS)::.ro []::(aS 0).cells):=rfl;rw[this,<-ou];rfl
   refine tD s hR fx (by simp[bY,Aa]) ?_ (by simp[gK,SV.lt]) (by simp[eA,SV.lt]);simp only[jO,nM,kT,e4];simp[fj]
  simp only[dB,aCh,ayj,ah,ab];simp only[tT,tH,tS,ayb,aAf];refine aa.go ?_;simp[hR,eP hR];refine⟨_,_,⟨rfl,rfl⟩,rfl,?_,by simp[hR],.inr ⟨by simp,?_⟩⟩
  ·simpa[tT,tH,tS]using rD c s [some ⟨1,[.ptr 0 0 0],false⟩,some ⟨8,[lS ⟨2,[],ys,[],0⟩],false⟩]
  ·have:=qQ (c:=c) (s:=s) hR;simpa[tT,tH,tS]using this
theorem ME(c:Tc)(s:Tb)(t:wg c s)(hc:qe c)(hN:c.n+c.m=c.N){i:Nat}(hi:i<c.m)(ac:Bool) :
  kZ ay9 123 [.ptr 0 0 0,iv i,dr ac] (tT c s []) [] (λT v=>T=tT c s []∧v=lS ⟨2,[],(ayq c.m).map (BP c s i ac),[],0⟩):=by
 refine iG Tryz.func123 rfl (by simp) (λC hC=>?_);have fx:=qm t.R hC;show aa _ _ dB _ (im ay9 [.cell 6 80] [] _);exact afc t.R hc.m7 ac fx (by simp) (nH t hc hN hi ac fx (by simp) (abx t hc hN hi ac (by simp) (acL t hc ac fx (by simp) (afC t hc ac (by simp) fx))))
end Go.Proofs
set_option maxRecDepth 10000
namespace Go.Sx
open Go Go.Sv Go.Pl Go.Proofs Go.Tb Go.Ut Go.Mx Go.Li Go.Dt
def nz(P:Nat->Bool):Nat->Nat
 | 0=>0
 | k+1=>nz P k+if P k=true then 1 else 0
theorem IF(P:Nat->Bool):∀k,nz P k+nz (λi=>!P i) k=k
 | 0=>rfl
 | k+1=>by
  have:=IF P k;simp only[nz];by_cases e:P k=true
  ·have e2:(!P k)=false:=by rw[e];rfl
   rw[if_pos e,if_neg (by rw[e2];simp)];omega
  ·have e2:(!P k)=true:=by simpa using e
   rw[if_neg e,if_pos e2];omega
theorem GB{f:Nat->Rat}{P:Nat->Bool}{V:Nat}:∀k,(∀i,i<k->P i=true->Proofs.qw V (f i))->(∀i,i<k->P i=false->f i=0)->Proofs.qw (1+nz P k*(V+1)) (aG f k)
 | 0,_,_=>⟨kF _,mM (by omega)⟩
 | k+1,h,h0=>by
  have ih:=GB k (λi hi=>h i (by omega)) λi hi=>h0 i (by omega);simp only[aG,nz];cases e:P k with
  | false =>
   rw[h0 k (by omega) e,Rat.add_zero];simpa using ih
  | true =>
   refine ax (kX ih (h k (by omega) e)) ?_;simp only[if_true];rw[Nat.add_mul];omega
theorem It(P:Nat->Bool):∀k,((nz P k:Nat):Rat)=aG (λi=>if P i=true then 1 else 0) k
 | 0=>rfl
 | k+1=>by
  simp only[nz,aG];rw[<-It P k];cases P k
  ·simp[Rat.add_zero]
  ·simp
theorem wO:∀k,aG (λ_=>(1:Rat)) k=((k:Nat):Rat)
 | 0=>rfl
 | k+1=>by simp only[aG];rw[wO k];simp
theorem Jh{c:Tc}{K:(Nat->Rat)->Prop}{s:Tb}(h:fm c K s):nz (λk=>!decide (gt s.wh k=1)) c.N+c.m=c.N:=by
 classical
 have e:=xy h.d (λ_=>(1:Rat));have e1:((nz (λk=>decide (gt s.wh k=1)) c.N:Nat):Rat)=((c.m:Nat):Rat):=by
  rw[It,<-wO c.m,<-e];refine aO _ λk hk=>?_;have:=h.w k hk;by_cases q:gt s.wh k=1
  ·rw[if_pos (by simpa using q),if_pos (this.1 q)]
  ·rw[if_neg (by simpa using q),if_neg λg=>q (this.2 g)]
 have e2:nz (λk=>decide (gt s.wh k=1)) c.N=c.m:=Rat.natCast_inj.1 e1;have:=IF (λk=>decide (gt s.wh k=1)) c.N;omega
theorem Qf{c:Tc}{K:(Nat->Rat)->Prop}{s:Tb}(hw:BN c)(hW:HW c K)(h:fm c K s)(hn:c.n+c.m=c.N)(h7:c.n<=7){k:Nat}(hk:k<c.N):qw 1203140408 (gt s.x k):=by
 by_cases e:gt s.wh k=1
 ·obtain⟨r,hr,rfl⟩:=(h.w k hk).1 e;rw[h.xb r hr];have hz:=Jh h;refine ax (GB (P:=λk=>!decide (gt s.wh k=1)) (V:=171875000+2200) c.N (λq hq ae=>?_) λq hq ae=>?_) (?_:1+_*(171875000+2200+1)<=_)
  ·have ae:gt s.wh q≠1:=by simpa using ae
   rw[h.xn q hq ae];exact cy (hW _ _ h.d h.t.Rr r hr q (by rw[h.t.Rr r hr];exact hq)) (CQ hw _ hq) (by omega)
  ·have ae:gt s.wh q=1:=by simpa using ae
   obtain⟨i,hi,rfl⟩:=(h.w q hq).1 ae;rw[h.d.z0 r i hr hi,Rat.zero_mul]
  ·omega
 ·rw[h.xn k hk e];exact ax (CQ hw _ hk) (by omega)
theorem uz{p:aB}(hw:cW p){x:List Rat}{V:Nat}(hx:Wd V x)(hl:p.ai.length<=x.length)(hV:2200+V<=10000000000):∀j,j<=p.ai.length->qw (2200+(2200+V+1)*j) (gO p x j)
 | 0,_=>hw.sh
 | j+1,hj=>ax (kX (uz hw hx hl hV j (by omega)) (cy (hw.co j (by omega)).1 (hx j (by omega)) (by omega))) (by rw[Nat.mul_add];omega)
end Go.Sx
namespace Go.Proofs
open Go.Sv Go Go.Tb Go.Pl Go.Ut Go.Mx Go.Li Go.Dt Go.Sx
theorem Ih(p:aB)(h:BF p)(hw:cW p)(hv:bA p=0)(x:List Rat){V:Nat}(hx:Wd V x)(hl:x.length=p.ai.length)(h7:p.ai.length<=7)(hV:2200+(2200+V+1)*7<=10000000000):aE ay9 125 [.dG (bS p) 0,.ro (x.map aS)] (.bM [aS (gO p x p.ai.length),.val .nilIface]):=by
 have nc:=h.nc;have g:=w7 p h;rw[hv,Qy]at g;refine aj Tryz.func125 rfl (by simp) (λC hC=>?_);simp;refine awI (g) ?_;simp[hl];refine aa.bB (ι:=Nat) (λj=>⟨51,[(0,.dG (bS p) 0),(1,.ro (x.map aS)),(4,.ptr 0 0 0),(7,.ptr 1 0 0),(33,.ro (p.ai.map jv)),(34,iv p.ai.length),(35,iv j)],[some ⟨4,[.agg [.val (.bool false),.val (.slice none 0 0),.val (.bool false),.val (.slice none 0 0)]],false⟩,some ⟨4,[aS (gO p x j)],false⟩]⟩)
  (λj=>j<=p.ai.length) (λj=>p.ai.length - j) 0 (by simp) ?_ ?_
 ·simp[aP,hC,gO]
 ·rintro j hj;by_cases aR:j<p.ai.length
  ·have w1:=uz hw hx (by omega) (by omega) j (by omega);have w2:=hx j (by omega);have w3:=(hw.co j aR).1;have w4:2200+(2200+V+1)*j<=10000000000:=by
    have:=Nat.mul_le_mul_left (2200+V+1) (show j<=7 by omega);omega
   simp(disch:=omega)[aR,xx];repeat refine awG ?_
   refine aa.awH (.qs [0,1,2,3,4,5,6]<|.l 7 []<|.l 8 []<|.l 9 [1]<|.nil) ?_;simp(disch:=omega)[ch];repeat refine awG ?_
   refine awI (pA _ _ (aq w3 (by omega)) (aq w2 (by omega))) ?_;simp;refine awI (pX _ _ (aq w1 w4) (aq (cy w3 w2 (by omega)) (by omega))) ?_;simp(disch:=omega)[aD];repeat refine awG ?_
   exact⟨j+1,by omega,by omega,Le.dE (by simp(disch:=omega)[aP,hC,gO])⟩
  ·obtain rfl:j=p.ai.length:=by omega
   simp
end Go.Proofs

