/- A text of the prover's own. -/
import Derived.Test.YtnimjdcaajmfcaaGreatDoorVUn
open Go.Proofs.Tryz renaming f186->aB3,prog->ay9,f173->aB4
open Option renaming getD_some->ayj
open List renaming cons_append->ayb,nil_append->aAf
set_option maxRecDepth 10000
namespace Go.Proofs
open Go.Sv Go Go.Tb Go.Pl Go.Ut Go.Mx Go.Li Go.Dt Go.Sx
theorem abo(y b:Rat)(lv wv who at':Int)(h:y=b)(h1:0<=lv)(h2:0<=who)(h3:who<lv):D9 y b true lv wv who at' 0:=λC hC=>by simp only[jR,aB3,ayj,ah,ab];simp only[bG,ayb,aAf];refine aa.El (aa.mZ (u6.go ?_));simp[h1,h2,h3];refine aa.x6 true (by simp) (λ_=>?_) (λq=>by cases q);refine aa.go ?_;simp;exact⟨_,_,⟨.inl ⟨.inr (.inr (.inl ⟨h,h1,h2,h3⟩)),rfl⟩,rfl⟩,rfl,by simp[fj],by simp,.inr ⟨by simp,by simp[eA]⟩⟩
theorem acN(y b:Rat)(lv wv who at':Int)(h:y=b)(h1:0<=lv)(h2:0<=who)(h3:¬who<lv)(h4:¬who<0):D9 y b true lv wv who at' 0:=λC hC=>by
 simp only[jR,aB3,ayj,ah,ab];simp only[bG,ayb,aAf];refine aa.El (aa.mZ (u6.go ?_));simp[h1,h2,h3,h4];refine aa.x6 false (by simp) (λq=>by cases q) (λ_=>?_);refine aa.go ?_;simp;exact⟨_,_,⟨.inr ⟨λh'=>by
  rcases h' with q | q | ⟨q,q1,q2,q3⟩ | ⟨q,q1⟩
  ·exact absurd q (by simp)
  ·grind
  ·exact h3 q3
  ·exact h4 q1,rfl⟩,rfl⟩,rfl,by simp[fj],by simp,.inr ⟨by simp,by simp[eA]⟩⟩
theorem ae8(y b:Rat)(lv wv who at':Int)(h:y=b)(h1:0<=lv)(h2:¬0<=who)(h4:who<0):D9 y b true lv wv who at' 0:=λC hC=>by simp only[jR,aB3,ayj,ah,ab];simp only[bG,ayb,aAf];refine aa.El (aa.mZ (u6.go ?_));simp[h1,h2,h4];refine aa.x6 true (by simp) (λ_=>?_) (λq=>by cases q);refine aa.go ?_;simp;exact⟨_,_,⟨.inl ⟨.inr (.inr (.inr ⟨h,h4⟩)),rfl⟩,rfl⟩,rfl,by simp[fj],by simp,.inr ⟨by simp,by simp[eA]⟩⟩
end Go.Proofs
set_option maxRecDepth 10000
namespace Go.Proofs
open Go.Sv Go Go.Tb Go.Pl Go.Ut Go.Mx Go.Li Go.Dt Go.Sx
theorem aa9(y b:Rat)(lv wv who at':Int)(h:y=b)(h1:¬0<=lv)(h4:who<0):D9 y b true lv wv who at' 0:=λC hC=>by simp only[jR,aB3,ayj,ah,ab];simp only[bG,ayb,aAf];refine aa.El (aa.mZ (u6.go ?_));simp[h1,h4];refine aa.x6 true (by simp) (λ_=>?_) (λq=>by cases q);refine aa.go ?_;simp;exact⟨_,_,⟨.inl ⟨.inr (.inr (.inr ⟨h,h4⟩)),rfl⟩,rfl⟩,rfl,by simp[fj],by simp,.inr ⟨by simp,by simp[eA]⟩⟩
theorem adl(y b:Rat)(lv wv who at':Int)(h:y=b)(h1:¬0<=lv)(h4:¬who<0):D9 y b true lv wv who at' 0:=λC hC=>by
 simp only[jR,aB3,ayj,ah,ab];simp only[bG,ayb,aAf];refine aa.El (aa.mZ (u6.go ?_));simp[h1,h4];refine aa.x6 false (by simp) (λq=>by cases q) (λ_=>?_);refine aa.go ?_;simp;exact⟨_,_,⟨.inr ⟨λh'=>by
  rcases h' with q | q | ⟨q,q1,q2,q3⟩ | ⟨q,q1⟩
  ·exact absurd q (by simp)
  ·grind
  ·exact h1 q1
  ·exact h4 q1,rfl⟩,rfl⟩,rfl,by simp[fj],by simp,.inr ⟨by simp,by simp[eA]⟩⟩
end Go.Proofs
set_option maxRecDepth 10000
namespace Go.Proofs
open Go.Sv Go Go.Tb Go.Pl Go.Ut Go.Mx Go.Li Go.Dt Go.Sx
theorem U1(y b:Rat)(sm:Bool)(lv wv who at':Int)(hy:j4 y)(hb:j4 b) :
  kZ ay9 186 [aS y,iv who,iv at',.ptr 0 0 0,.ptr 1 0 0,.ptr 2 0 0,.ptr 3 0 0] (bG b sm lv wv) [] (λT v=>((yp y b sm lv who∧T=bG y true who at')∨(¬yp y b sm lv who∧T=bG b sm lv wv))∧v=.bM []):=by
 refine iG Tryz.func186 rfl (by simp) (λC hC=>?_);have hC:C.fx=[0,1,2,3]:=hC;show aa _ _ jR _ (im ay9 [] [] _);have cm:=rP y b hy hb;have all:D9 y b sm lv wv who at' (if y<b then(-1:Int) else if b<y then 1 else 0):=by
  cases sm with
  | false=>exact aea _ _ _ _ _ _ _
  | true =>
   by_cases h1:y<b
   ·rw[if_pos h1];exact afQ _ _ _ _ _ _ h1
   ·by_cases h2:b<y
    ·rw[if_neg h1,if_pos h2];exact agf _ _ _ _ _ _ h2
    ·rw[if_neg h1,if_neg h2];have e:y=b:=by grind
     by_cases h3:0<=lv
     ·by_cases h4:0<=who
      ·by_cases h5:who<lv
       ·exact abo _ _ _ _ _ _ e h3 h4 h5
       ·exact acN _ _ _ _ _ _ e h3 h4 h5 (by omega)
      ·exact ae8 _ _ _ _ _ _ e h3 h4 (by omega)
     ·by_cases h4:who<0
      ·exact aa9 _ _ _ _ _ _ e h3 h4
      ·exact adl _ _ _ _ _ _ e h3 h4
 generalize (if y<b then(-1:Int) else if b<y then 1 else 0)=c at *;refine aa.cutAt 2 (λst=>st=⟨48,[(1,iv who),(2,iv at'),(3,.ptr 0 0 0),(4,.ptr 1 0 0),(5,.ptr 2 0 0),(6,.ptr 3 0 0),(7,.ptr 4 0 0),(10,iv c)],bG b sm lv wv++[some ⟨4,[aS y],false⟩]⟩) ?_ ?_
 rotate_left 1
 ·rintro st rfl;exact all C hC
 simp only[jR,aB3,ayj,aN,aL];simp only[bG,ayb,aAf];simp;refine awI (cm) ?_;simp;exact⟨rfl,by simp[bY,Go.Sv.get],ao _,.inl rfl⟩
end Go.Proofs
namespace Go.Proofs
open Go.Sv Go Go.Tb Go.Pl Go.Ut Go.Mx Go.Li Go.Dt Go.Sx
theorem DR{c:Tc}{s:Tb}{tl:aC}(h:s.R.length=c.m)(i:Nat):aA (tT c s tl) (c.m+6+i)=aA tl i:=by unfold tT;rw[show c.m+6+i=6+(c.m+i) by omega,oW (A:=tH c s) (by simp[tH]),oW (by simpa using h)]
theorem KV{c:Tc}{s:Tb}{tl:aC}(h:s.R.length=c.m)(i:Nat)(y:Option cJ):aX (tT c s tl) (c.m+6+i) y=tT c s (aX tl i y):=by unfold tT;rw[show c.m+6+i=6+(c.m+i) by omega,qW (A:=tH c s) (by simp[tH]),qW (by simpa using h)]
theorem rX{C:Ctx}{c:Tc}{s:Tb}{tl:aC}{y b:Rat}{sm:Bool}{lv wv who at':Int}{K:aC->List Nat->SV->Prop}(hR:s.R.length=c.m)(hy:j4 y)(hb:j4 b)
  (hK:∀b' ac ad ae,((yp y b sm lv who∧b'=y∧ac=true∧ad=who∧ae=at')∨(¬yp y b sm lv who∧b'=b∧ac=sm∧ad=lv∧ae=wv))->K (tT c s (bG b' ac ad ae++tl)) [] (.bM [])) :
  dK ay9 C 186 [aS y,iv who,iv at',.ptr (c.m+6) 0 0,.ptr (c.m+7) 0 0,.ptr (c.m+8) 0 0,.ptr (c.m+9) 0 0] (tT c s (bG b sm lv wv++tl)) none K:=by
 have g:=λ(tl:aC) (i:Nat)=>DR (c:=c) (tl:=tl) hR i;have gs:=λ(tl:aC) (i:Nat) (y:Option cJ)=>KV (c:=c) (tl:=tl) hR i y;refine m5 (U1 y b sm lv wv who at' hy hb) [c.m+6+0,c.m+6+1,c.m+6+2,c.m+6+3] (by simp) ?_ (by simp) (λk hk=>by cases hk) (λks e=>by cases e) ?_
 ·unfold bG;simp only[kV,g];simp[aA,fP]
 ·rintro T1 v ⟨h,rfl⟩;have e:∀b' ac ad ae,qG (Go.Sv.sg [c.m+6+0,c.m+6+1,c.m+6+2,c.m+6+3] (tT c s (bG b sm lv wv++tl)).length) (mV (([]:List Nat).map (Go.Sv.sg [c.m+6+0,c.m+6+1,c.m+6+2,c.m+6+3] (tT c s (bG b sm lv wv++tl)).length)) (tT c s (bG b sm lv wv++tl))) [c.m+6+0,c.m+6+1,c.m+6+2,c.m+6+3] (bG b' ac ad ae)=tT c s (bG b' ac ad ae++tl):=λb' ac ad ae=>by
   show qG _ (tT c s (bG b sm lv wv++tl)) _ _=_;unfold bG;simp only[qG,gs];simp[aX,fP]
  rcases h with⟨h1,rfl⟩ | ⟨h1,rfl⟩
  ·rw[e];exact hK _ _ _ _ (.inl ⟨h1,rfl,rfl,rfl,rfl⟩)
  ·rw[e];exact hK _ _ _ _ (.inr ⟨h1,rfl,rfl,rfl,rfl⟩)
end Go.Proofs
set_option maxRecDepth 10000
namespace Go.Sx
open Go Go.Sv Go.Pl Go.Proofs Go.Tb Go.Ut Go.Mx Go.Li Go.Dt
theorem eP{n:Nat}{R:List (List Rat)}(h:R.length=n){tl:aC}(i:Nat):aA (eH R++tl) (n+i)=aA tl i:=oW (by simpa using h)
theorem eQ{n:Nat}{R:List (List Rat)}(h:R.length=n){tl:aC}{y:Option cJ}(i:Nat):aX (eH R++tl) (n+i) y=eH R++aX tl i y:=qW (by simpa using h)
theorem tF{C:Ctx}{N0:Nat}{c:Tc}(s:Tb){fr fr':List (Nat × SV)}{tl tl':aC}(h:s.R.length=c.m)(hx:∀k∈C.fx,k<c.m+6)(hf:bY fr fr')(ht:fj tl tl')(h2:gK (c.m+6+tl'.length) fr')(h3:eA (c.m+6+tl'.length) tl') :
  aP C ⟨N0,fr,tT c s tl⟩ ⟨N0,fr',tT c s tl'⟩:=by
 refine⟨rfl,hf,?_,.inr ⟨?_,?_,?_⟩⟩
 ·exact mP (tH c s) (mP _ ht)
 ·rw[jW h];exact h2
 ·rw[jW h];refine nR ?_ (nR (pH _ _) h3);have:=sf (N:=c.N) (m:=c.m) (k:=c.m+6+tl'.length) (by omega);simp[tH,tS,eA,this];omega
 ·rw[jW h];intro k hk;have:=hx k hk;omega
end Go.Sx
namespace Go.Proofs
open Go.Sv Go Go.Tb Go.Pl Go.Ut Go.Mx Go.Li Go.Dt Go.Sx
noncomputable def cQ:Code:=aB4.body.getD .skip
def dX(m:Nat):SV:=.j7 186 [] [.ptr (m+6) 0 0,.ptr (m+7) 0 0,.ptr (m+8) 0 0,.ptr (m+9) 0 0]
def jn(m j:Nat)(up:Bool):List (Nat × SV):=[(0,.ptr 0 0 0),(1,iv j),(2,dr up),(7,.ptr (m+6) 0 0),(8,.ptr (m+7) 0 0),(9,.ptr (m+8) 0 0),(10,.ptr (m+9) 0 0),(11,dX m)]
def StI(c:Tc)(s:Tb)(j:Nat)(up:Bool)(i:Nat)(fr:List (Nat × SV))(st:St):Prop:=∃sm b lv wv,JM c s j up i sm b lv wv∧qw 2578158016 b∧st=⟨206,fr,tT c s (bG b sm lv wv)⟩
theorem Xz{c:Tc}{K:(Nat->Rat)->Prop}{s:Tb}(hc:qe c)(h:fm c K s){j:Nat}(hj:j<c.N)(up:Bool){C:Ctx}(fx:∀k∈C.fx,k<c.m+6){Q:bf}
  (hn:aa ay9 C (bh 6 cQ) ⟨206,jn c.m j up++[(12,.ptr (c.m+10) 0 0)],tT c s (bG 0 false (-1) 0++[some ⟨5,[dA (gT c j up)],false⟩])⟩ Q) :
  aa ay9 C cQ ⟨206,[(0,.ptr 0 0 0),(1,iv j),(2,dr up)],tT c s []⟩ Q:=by
 have h7:=hc.m7;have ak:=hc.ur;have hR:=h.t.R;have al:=hc.lo;have af:=hc.hi;refine aa.cutAt 6 (λst=>st=⟨206,jn c.m j up++[(12,.ptr (c.m+10) 0 0)],tT c s [some ⟨4,[.agg [.val (.bool false),.val (.slice none 0 0),.val (.bool false),.val (.slice none 0 0)]],false⟩,some ⟨1,[dr false],false⟩,some ⟨1,[iv (-1)],false⟩,some ⟨1,[iv 0],false⟩,some ⟨5,[dA (gT c j up)],false⟩]⟩) ?_ ?_
 rotate_left 1
 ·rintro st rfl;refine aa.le ?_ hn;have e2:ig (.agg [.val (.bool false),.val (.slice none 0 0),.val (.bool false),.val (.slice none 0 0)])=aS 0:=by rw[<-ou];rfl
  have e3:∀l r,ig (.j7 186 l r)=.j7 186 l r:=λ_ _=>rfl;refine tD s hR fx (by simp[bY,Go.Sv.get,jn,dX,Aa,e3]) ?_ (by simp[gK,jn,dX,bG,SV.lt]) (by simp[bG,eA]);simp only[bG,jO,nM,kT,e2,ayb,aAf];have e4:ig (dA (gT c j up))=dA (gT c j up):=rfl;simp[fj,e4]
 simp only[cQ,aB4,ayj,aN,aL];simp only[tT,tH,tS,ayb,aAf];have am:aM (c.low.map dA) j=dA (gt c.low j):=ct _ (by omega);have ag:aM (c.high.map dA) j=dA (gt c.high j):=ct _ (by omega);cases up with
 | true =>
  simp(disch:=omega)[hR,eP hR,eQ hR,hj,af,ag];repeat refine awG ?_
  exact⟨rfl,by simp[bY,Go.Sv.get,jn,dX],ao _,.inl rfl⟩
 | false =>
  simp(disch:=omega)[hR,eP hR,eQ hR,hj,af,ag,al,am];repeat refine awG ?_
  exact⟨rfl,by simp[bY,Go.Sv.get,jn,dX],ao _,.inl rfl⟩
theorem US{c:Tc}{K:(Nat->Rat)->Prop}{s:Tb}(hc:qe c)(hw:BN c)(hW:HW c K)(h:fm c K s){j:Nat}(hj:j<c.N)(up:Bool){C:Ctx}(fx:∀k∈C.fx,k<c.m+6){Q:bf}(an:∀c st,¬Q (.panic c) st)
  (hn:∀sm b lv wv,JM c s j up 0 sm b lv wv->qw 2578158016 b->aa ay9 C (bh 7 cQ) ⟨206,jn c.m j up,tT c s (bG b sm lv wv)⟩ Q) :
  aa ay9 C (bh 6 cQ) ⟨206,jn c.m j up++[(12,.ptr (c.m+10) 0 0)],tT c s (bG 0 false (-1) 0++[some ⟨5,[dA (gT c j up)],false⟩])⟩ Q:=by
 have h7:=hc.m7;have ak:=hc.ur;have hR:=h.t.R;have ap:=h.t.x;have lx:=ch (l:=s.x) (i:=j) (by omega);have qx:=k9 hc hw hW h hj;have qo:qw 2200 (gT c j up).at':=by
  unfold gT;split
  ·exact hw.hi j hj
  ·exact hw.lo j hj
 refine aa.cutAt 1 (StI c s j up 0 (jn c.m j up)) ?_ ?_
 rotate_left 1
 ·rintro st ⟨sm,b,lv,wv,h1,h2,rfl⟩;have:=hn _ _ _ _ h1 h2;simp only[cQ,aB4,ayj,ah,ab]at this ⊢;exact this
 clear hn;simp only[cQ,aB4,ayj,ah,ab,aN,aL];simp only[tT,tH,tS,jn,dX,bG,ayb,aAf];by_cases hh:(gT c j up).has=true
 ·simp(disch:=omega)[eP hR,hh];repeat refine awG ?_
  refine aa.jB (.d 10<|.qs [0,1,2,3,4,5,6,7,8]<|.p 9<|.b ( .l 11 [c.m+11]<|.nil )) (by kernel_rfl) (by kernel_rfl) (by simp[an]) ?_;simp(disch:=omega)[hR,eP hR,hj,ap,lx];repeat refine awG ?_
  refine ff (pt (gT c j up).at' (gt s.x j) (aq qo (by omega)) (aq qx (by omega))) (by simp) ?_;have ai:dO c s j up=if up=true then(gT c j up).at' - gt s.x j else -((gT c j up).at' - gt s.x j):=rfl;have q1:qw 2406283016 ((gT c j up).at' - gt s.x j):=ax (qd qo qx) (by omega);generalize (gT c j up).at' - gt s.x j=y at *;simp(disch:=omega)[eP hR,eQ hR];repeat refine awG ?_
  cases up with
  | true =>
   simp(disch:=omega)[];repeat refine awG ?_
   refine rX (c:=c) (s:=s) (tl:=[_,_]) (b:=0) (sm:=false) (lv := -1) (wv:=0) (y:=y) (who := -1) (at':=0) hR (aq q1 (by omega)) (aq (k:=1) (Proofs.cC (by omega)) (by omega)) λb' ac ad ae hk=>?_;obtain⟨rfl,rfl,rfl,rfl⟩:b'=y∧ac=true∧ad = -1∧ae=0:=by
    rcases hk with⟨_,hk⟩ | ⟨hk,_⟩
    ·exact hk
    ·exact absurd (.inl rfl) hk
   simp;refine⟨_,⟨true,b', -1,0,.inr (.inl ⟨rfl,rfl,rfl,hh,by rw[ai,if_pos rfl],λq hq=>by omega⟩),ax q1 (by omega),rfl⟩,?_⟩;exact tF s hR fx (by simp[bY,Go.Sv.get]) (by simp[bG,fj]) (by simp[gK,bG,SV.lt]) (by simp[bG,eA])
  | false =>
   simp(disch:=omega)[];repeat refine awG ?_
   refine awI (jK y) ?_;simp(disch:=omega)[eP hR,eQ hR];repeat refine awG ?_
   refine rX (c:=c) (s:=s) (tl:=[_,_]) (b:=0) (sm:=false) (lv := -1) (wv:=0) (y := -y) (who := -1) (at':=0) hR (aq (fh q1) (by omega)) (aq (k:=1) (Proofs.cC (by omega)) (by omega)) λb' ac ad ae hk=>?_;obtain⟨rfl,rfl,rfl,rfl⟩:b' = -y∧ac=true∧ad = -1∧ae=0:=by
    rcases hk with⟨_,hk⟩ | ⟨hk,_⟩
    ·exact hk
    ·exact absurd (.inl rfl) hk
   simp;refine⟨_,⟨true, -y, -1,0,.inr (.inl ⟨rfl,rfl,rfl,hh,by rw[ai,if_neg (by simp)],λq hq=>by omega⟩),ax (fh q1) (by omega),rfl⟩,?_⟩;exact tF s hR fx (by simp[bY,Go.Sv.get]) (by simp[bG,fj]) (by simp[gK,bG,SV.lt]) (by simp[bG,eA])
 ·have aj:(gT c j up).has=false:=by simpa using hh
  simp(disch:=omega)[eP hR,aj];repeat refine awG ?_
  refine⟨_,⟨false,0, -1,0,.inl ⟨rfl,rfl,rfl,rfl,aj,λq hq=>by omega⟩,ax (k:=1) (Proofs.cC (by omega)) (by omega),rfl⟩,?_⟩;exact tF s hR fx (by simp[bY,Go.Sv.get]) (by simp[bG,fj]) (by simp[gK,bG,SV.lt]) (by simp[bG,eA])
end Go.Proofs

