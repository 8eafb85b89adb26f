/- A text of the prover's own. -/
import Derived.Test.YtnimjdcaajmfcaaGreatDoorBUn
open Go.Proofs.Tryz renaming f186->axt,prog->awW,f173->axu
open Option renaming getD_some->ate
open List renaming cons_append->as8,nil_append->at3
set_option maxRecDepth 10000
namespace Go.Proofs
open Go.Sv Go Go.Tb Go.Pl Go.Ut Go.Mx Go.Li Go.Dt Go.Sx
theorem Zq(y b:Rat)(lv wv who at':Int)(h:y=b)(h1:0<=lv)(h2:0<=who)(h3:who<lv):CT y b true lv wv who at' 0:=λC hC=>by simp only[jb,axt,ate,ai,ah];simp only[bu,as8,at3];refine aa.Cb (aa.mq (tA.go ?_));simp[h1,h2,h3];refine aa.vK true (by simp) (λ_=>?_) (λq=>by cases q);refine aa.go ?_;simp;exact⟨_,_,⟨.inl ⟨.inr (.inr (.inl ⟨h,h1,h2,h3⟩)),rfl⟩,rfl⟩,rfl,by simp[fI],by simp,.inr ⟨by simp,by simp[ee]⟩⟩
theorem aci(y b:Rat)(lv wv who at':Int)(h:y=b)(h1:0<=lv)(h2:0<=who)(h3:¬who<lv)(h4:¬who<0):CT y b true lv wv who at' 0:=λC hC=>by
 simp only[jb,axt,ate,ai,ah];simp only[bu,as8,at3];refine aa.Cb (aa.mq (tA.go ?_));simp[h1,h2,h3,h4];refine aa.vK false (by simp) (λq=>by cases q) (λ_=>?_);refine aa.go ?_;simp;exact⟨_,_,⟨.inr ⟨λh'=>by
  rcases h' with q | q | ⟨q,q1,q2,q3⟩ | ⟨q,q1⟩
  ·exact absurd q (by simp)
  ·grind
  ·exact h3 q3
  ·exact h4 q1,rfl⟩,rfl⟩,rfl,by simp[fI],by simp,.inr ⟨by simp,by simp[ee]⟩⟩
theorem Z7(y b:Rat)(lv wv who at':Int)(h:y=b)(h1:0<=lv)(h2:¬0<=who)(h4:who<0):CT y b true lv wv who at' 0:=λC hC=>by simp only[jb,axt,ate,ai,ah];simp only[bu,as8,at3];refine aa.Cb (aa.mq (tA.go ?_));simp[h1,h2,h4];refine aa.vK true (by simp) (λ_=>?_) (λq=>by cases q);refine aa.go ?_;simp;exact⟨_,_,⟨.inl ⟨.inr (.inr (.inr ⟨h,h4⟩)),rfl⟩,rfl⟩,rfl,by simp[fI],by simp,.inr ⟨by simp,by simp[ee]⟩⟩
end Go.Proofs
set_option maxRecDepth 10000
namespace Go.Proofs
open Go.Sv Go Go.Tb Go.Pl Go.Ut Go.Mx Go.Li Go.Dt Go.Sx
theorem aaE(y b:Rat)(lv wv who at':Int)(h:y=b)(h1:¬0<=lv)(h4:who<0):CT y b true lv wv who at' 0:=λC hC=>by simp only[jb,axt,ate,ai,ah];simp only[bu,as8,at3];refine aa.Cb (aa.mq (tA.go ?_));simp[h1,h4];refine aa.vK true (by simp) (λ_=>?_) (λq=>by cases q);refine aa.go ?_;simp;exact⟨_,_,⟨.inl ⟨.inr (.inr (.inr ⟨h,h4⟩)),rfl⟩,rfl⟩,rfl,by simp[fI],by simp,.inr ⟨by simp,by simp[ee]⟩⟩
theorem aca(y b:Rat)(lv wv who at':Int)(h:y=b)(h1:¬0<=lv)(h4:¬who<0):CT y b true lv wv who at' 0:=λC hC=>by
 simp only[jb,axt,ate,ai,ah];simp only[bu,as8,at3];refine aa.Cb (aa.mq (tA.go ?_));simp[h1,h4];refine aa.vK false (by simp) (λq=>by cases q) (λ_=>?_);refine aa.go ?_;simp;exact⟨_,_,⟨.inr ⟨λh'=>by
  rcases h' with q | q | ⟨q,q1,q2,q3⟩ | ⟨q,q1⟩
  ·exact absurd q (by simp)
  ·grind
  ·exact h1 q1
  ·exact h4 q1,rfl⟩,rfl⟩,rfl,by simp[fI],by simp,.inr ⟨by simp,by simp[ee]⟩⟩
end Go.Proofs
set_option maxRecDepth 10000
namespace Go.Proofs
open Go.Sv Go Go.Tb Go.Pl Go.Ut Go.Mx Go.Li Go.Dt Go.Sx
theorem T9(y b:Rat)(sm:Bool)(lv wv who at':Int)(hy:kc y)(hb:kc b) :
  kv awW 186 [aU y,iv who,iv at',.ptr 0 0 0,.ptr 1 0 0,.ptr 2 0 0,.ptr 3 0 0] (bu b sm lv wv) [] (λT v=>((v9 y b sm lv who∧T=bu y true who at')∨(¬v9 y b sm lv who∧T=bu b sm lv wv))∧v=.bP []):=by
 refine iQ Tryz.func186 rfl (by simp) (λC hC=>?_);have hC:C.fx=[0,1,2,3]:=hC;show aa _ _ jb _ (gK awW [] [] _);have cm:=p6 y b hy hb;have all:CT y b sm lv wv who at' (if y<b then(-1:Int) else if b<y then 1 else 0):=by
  cases sm with
  | false=>exact aa8 _ _ _ _ _ _ _
  | true =>
   by_cases h1:y<b
   ·rw[if_pos h1];exact YQ _ _ _ _ _ _ h1
   ·by_cases h2:b<y
    ·rw[if_neg h1,if_pos h2];exact YJ _ _ _ _ _ _ h2
    ·rw[if_neg h1,if_neg h2];have e:y=b:=by grind
     by_cases h3:0<=lv
     ·by_cases h4:0<=who
      ·by_cases h5:who<lv
       ·exact Zq _ _ _ _ _ _ e h3 h4 h5
       ·exact aci _ _ _ _ _ _ e h3 h4 h5 (by omega)
      ·exact Z7 _ _ _ _ _ _ e h3 h4 (by omega)
     ·by_cases h4:who<0
      ·exact aaE _ _ _ _ _ _ e h3 h4
      ·exact aca _ _ _ _ _ _ e h3 h4
 generalize (if y<b then(-1:Int) else if b<y then 1 else 0)=c at *;refine aa.cutAt 2 (λst=>st=⟨48,[(1,iv who),(2,iv at'),(3,.ptr 0 0 0),(4,.ptr 1 0 0),(5,.ptr 2 0 0),(6,.ptr 3 0 0),(7,.ptr 4 0 0),(10,iv c)],bu b sm lv wv++[some ⟨4,[aU y],false⟩]⟩) ?_ ?_
 rotate_left 1
 ·rintro st rfl;exact all C hC
 simp only[jb,axt,ate,aN,aM];simp only[bu,as8,at3];simp;refine asl (cm) ?_;simp;exact⟨rfl,by simp[bU,Go.Sv.get],aq _,.inl rfl⟩
end Go.Proofs
namespace Go.Proofs
open Go.Sv Go Go.Tb Go.Pl Go.Ut Go.Mx Go.Li Go.Dt Go.Sx
theorem B9{c:Tc}{s:Tb}{tl:aD}(h:s.R.length=c.m)(i:Nat):aA (tT c s tl) (c.m+6+i)=aA tl i:=by unfold tT;rw[show c.m+6+i=6+(c.m+i) by omega,m9 (A:=tH c s) (by simp[tH]),m9 (by simpa using h)]
theorem HP{c:Tc}{s:Tb}{tl:aD}(h:s.R.length=c.m)(i:Nat)(y:Option cz):aX (tT c s tl) (c.m+6+i) y=tT c s (aX tl i y):=by unfold tT;rw[show c.m+6+i=6+(c.m+i) by omega,pS (A:=tH c s) (by simp[tH]),pS (by simpa using h)]
theorem qe{C:Ctx}{c:Tc}{s:Tb}{tl:aD}{y b:Rat}{sm:Bool}{lv wv who at':Int}{K:aD->List Nat->SV->Prop}(hR:s.R.length=c.m)(hy:kc y)(hb:kc b)
  (hK:∀b' ab ac ad,((v9 y b sm lv who∧b'=y∧ab=true∧ac=who∧ad=at')∨(¬v9 y b sm lv who∧b'=b∧ab=sm∧ac=lv∧ad=wv))->K (tT c s (bu b' ab ac ad++tl)) [] (.bP [])) :
  dN awW C 186 [aU y,iv who,iv at',.ptr (c.m+6) 0 0,.ptr (c.m+7) 0 0,.ptr (c.m+8) 0 0,.ptr (c.m+9) 0 0] (tT c s (bu b sm lv wv++tl)) none K:=by
 have g:=λ(tl:aD) (i:Nat)=>B9 (c:=c) (tl:=tl) hR i;have gs:=λ(tl:aD) (i:Nat) (y:Option cz)=>HP (c:=c) (tl:=tl) hR i y;refine mS (T9 y b sm lv wv who at' hy hb) [c.m+6+0,c.m+6+1,c.m+6+2,c.m+6+3] (by simp) ?_ (by simp) (λk hk=>by cases hk) (λks e=>by cases e) ?_
 ·unfold bu;simp only[kf,g];simp[aA,fv]
 ·rintro T1 v ⟨h,rfl⟩;have e:∀b' ab ac ad,oW (Go.Sv.sg [c.m+6+0,c.m+6+1,c.m+6+2,c.m+6+3] (tT c s (bu b sm lv wv++tl)).length) (l5 (([]:List Nat).map (Go.Sv.sg [c.m+6+0,c.m+6+1,c.m+6+2,c.m+6+3] (tT c s (bu b sm lv wv++tl)).length)) (tT c s (bu b sm lv wv++tl))) [c.m+6+0,c.m+6+1,c.m+6+2,c.m+6+3] (bu b' ab ac ad)=tT c s (bu b' ab ac ad++tl):=λb' ab ac ad=>by
   show oW _ (tT c s (bu b sm lv wv++tl)) _ _=_;unfold bu;simp only[oW,gs];simp[aX,fv]
  rcases h with⟨h1,rfl⟩ | ⟨h1,rfl⟩
  ·rw[e];exact hK _ _ _ _ (.inl ⟨h1,rfl,rfl,rfl,rfl⟩)
  ·rw[e];exact hK _ _ _ _ (.inr ⟨h1,rfl,rfl,rfl,rfl⟩)
end Go.Proofs
set_option maxRecDepth 10000
namespace Go.Sx
open Go Go.Sv Go.Pl Go.Proofs Go.Tb Go.Ut Go.Mx Go.Li Go.Dt
theorem ep{n:Nat}{R:List (List Rat)}(h:R.length=n){tl:aD}(i:Nat):aA (ey R++tl) (n+i)=aA tl i:=m9 (by simpa using h)
theorem eo{n:Nat}{R:List (List Rat)}(h:R.length=n){tl:aD}{y:Option cz}(i:Nat):aX (ey R++tl) (n+i) y=ey R++aX tl i y:=pS (by simpa using h)
theorem r9{C:Ctx}{N0:Nat}{c:Tc}(s:Tb){fr fr':List (Nat × SV)}{tl tl':aD}(h:s.R.length=c.m)(hx:∀k∈C.fx,k<c.m+6)(hf:bU fr fr')(ht:fI tl tl')(h2:gz (c.m+6+tl'.length) fr')(h3:ee (c.m+6+tl'.length) tl') :
  aR C ⟨N0,fr,tT c s tl⟩ ⟨N0,fr',tT c s tl'⟩:=by
 refine⟨rfl,hf,?_,.inr ⟨?_,?_,?_⟩⟩
 ·exact kY (tH c s) (kY _ ht)
 ·rw[jo h];exact h2
 ·rw[jo h];refine mB ?_ (mB (nO _ _) h3);have:=qL (N:=c.N) (m:=c.m) (k:=c.m+6+tl'.length) (by omega);simp[tH,tS,ee,this];omega
 ·rw[jo h];intro k hk;have:=hx k hk;omega
end Go.Sx
namespace Go.Proofs
open Go.Sv Go Go.Tb Go.Pl Go.Ut Go.Mx Go.Li Go.Dt Go.Sx
noncomputable def cG:Code:=axu.body.getD .skip
def dJ(m:Nat):SV:=.jw 186 [] [.ptr (m+6) 0 0,.ptr (m+7) 0 0,.ptr (m+8) 0 0,.ptr (m+9) 0 0]
def iL(m j:Nat)(up:Bool):List (Nat × SV):=[(0,.ptr 0 0 0),(1,iv j),(2,cX up),(7,.ptr (m+6) 0 0),(8,.ptr (m+7) 0 0),(9,.ptr (m+8) 0 0),(10,.ptr (m+9) 0 0),(11,dJ m)]
def StI(c:Tc)(s:Tb)(j:Nat)(up:Bool)(i:Nat)(fr:List (Nat × SV))(st:St):Prop:=∃sm b lv wv,Iq c s j up i sm b lv wv∧qw 2578158016 b∧st=⟨206,fr,tT c s (bu b sm lv wv)⟩
theorem Uk{c:Tc}{K:(Nat->Rat)->Prop}{s:Tb}(hc:oR c)(h:fo c K s){j:Nat}(hj:j<c.N)(up:Bool){C:Ctx}(fx:∀k∈C.fx,k<c.m+6){Q:bf}
  (hn:aa awW C (bs 6 cG) ⟨206,iL c.m j up++[(12,.ptr (c.m+10) 0 0)],tT c s (bu 0 false (-1) 0++[some ⟨5,[dh (fZ c j up)],false⟩])⟩ Q) :
  aa awW C cG ⟨206,[(0,.ptr 0 0 0),(1,iv j),(2,cX up)],tT c s []⟩ Q:=by
 have h7:=hc.m7;have ak:=hc.sq;have hR:=h.t.R;have al:=hc.lo;have ae:=hc.hi;refine aa.cutAt 6 (λst=>st=⟨206,iL c.m j up++[(12,.ptr (c.m+10) 0 0)],tT c s [some ⟨4,[.agg [.val (.bool false),.val (.slice none 0 0),.val (.bool false),.val (.slice none 0 0)]],false⟩,some ⟨1,[cX false],false⟩,some ⟨1,[iv (-1)],false⟩,some ⟨1,[iv 0],false⟩,some ⟨5,[dh (fZ c j up)],false⟩]⟩) ?_ ?_
 rotate_left 1
 ·rintro st rfl;refine aa.le ?_ hn;have e2:iq (.agg [.val (.bool false),.val (.slice none 0 0),.val (.bool false),.val (.slice none 0 0)])=aU 0:=by rw[<-tI];rfl
  have e3:∀l r,iq (.jw 186 l r)=.jw 186 l r:=λ_ _=>rfl;refine rW s hR fx (by simp[bU,Go.Sv.get,iL,dJ,zI,e3]) ?_ (by simp[gz,iL,dJ,bu,SV.lt]) (by simp[bu,ee]);simp only[bu,jd,mc,lW,e2,as8,at3];have e4:iq (dh (fZ c j up))=dh (fZ c j up):=rfl;simp[fI,e4]
 simp only[cG,axu,ate,aN,aM];simp only[tT,tH,tS,as8,at3];have am:aL (c.low.map dh) j=dh (gt c.low j):=cy _ (by omega);have af:aL (c.high.map dh) j=dh (gt c.high j):=cy _ (by omega);cases up with
 | true =>
  simp(disch:=omega)[hR,ep hR,eo hR,hj,ae,af];repeat refine asi ?_
  exact⟨rfl,by simp[bU,Go.Sv.get,iL,dJ],aq _,.inl rfl⟩
 | false =>
  simp(disch:=omega)[hR,ep hR,eo hR,hj,ae,af,al,am];repeat refine asi ?_
  exact⟨rfl,by simp[bU,Go.Sv.get,iL,dJ],aq _,.inl rfl⟩
theorem SI{c:Tc}{K:(Nat->Rat)->Prop}{s:Tb}(hc:oR c)(hw:zG c)(hW:HW c K)(h:fo c K s){j:Nat}(hj:j<c.N)(up:Bool){C:Ctx}(fx:∀k∈C.fx,k<c.m+6){Q:bf}(an:∀c st,¬Q (.panic c) st)
  (hn:∀sm b lv wv,Iq c s j up 0 sm b lv wv->qw 2578158016 b->aa awW C (bs 7 cG) ⟨206,iL c.m j up,tT c s (bu b sm lv wv)⟩ Q) :
  aa awW C (bs 6 cG) ⟨206,iL c.m j up++[(12,.ptr (c.m+10) 0 0)],tT c s (bu 0 false (-1) 0++[some ⟨5,[dh (fZ c j up)],false⟩])⟩ Q:=by
 have h7:=hc.m7;have ak:=hc.sq;have hR:=h.t.R;have ap:=h.t.x;have lx:=bS (l:=s.x) (i:=j) (by omega);have qx:=kn hc hw hW h hj;have qo:qw 2200 (fZ c j up).at':=by
  unfold fZ;split
  ·exact hw.hi j hj
  ·exact hw.lo j hj
 refine aa.cutAt 1 (StI c s j up 0 (iL c.m j up)) ?_ ?_
 rotate_left 1
 ·rintro st ⟨sm,b,lv,wv,h1,h2,rfl⟩;have:=hn _ _ _ _ h1 h2;simp only[cG,axu,ate,ai,ah]at this ⊢;exact this
 clear hn;simp only[cG,axu,ate,ai,ah,aN,aM];simp only[tT,tH,tS,iL,dJ,bu,as8,at3];by_cases hh:(fZ c j up).has=true
 ·simp(disch:=omega)[ep hR,hh];repeat refine asi ?_
  refine aa.jZ (.d 10<|.qs [0,1,2,3,4,5,6,7,8]<|.p 9<|.b ( .l 11 [c.m+11]<|.nil )) (by kernel_rfl) (by kernel_rfl) (by simp[an]) ?_;simp(disch:=omega)[hR,ep hR,hj,ap,lx];repeat refine asi ?_
  refine fG (ot (fZ c j up).at' (gt s.x j) (ao qo (by omega)) (ao qx (by omega))) (by simp) ?_;have ag:dO c s j up=if up=true then(fZ c j up).at' - gt s.x j else -((fZ c j up).at' - gt s.x j):=rfl;have q1:qw 2406283016 ((fZ c j up).at' - gt s.x j):=ay (nL qo qx) (by omega);generalize (fZ c j up).at' - gt s.x j=y at *;simp(disch:=omega)[ep hR,eo hR];repeat refine asi ?_
  cases up with
  | true =>
   simp(disch:=omega)[];repeat refine asi ?_
   refine qe (c:=c) (s:=s) (tl:=[_,_]) (b:=0) (sm:=false) (lv := -1) (wv:=0) (y:=y) (who := -1) (at':=0) hR (ao q1 (by omega)) (ao (k:=1) (Proofs.cL (by omega)) (by omega)) λb' ab ac ad hk=>?_;obtain⟨rfl,rfl,rfl,rfl⟩:b'=y∧ab=true∧ac = -1∧ad=0:=by
    rcases hk with⟨_,hk⟩ | ⟨hk,_⟩
    ·exact hk
    ·exact absurd (.inl rfl) hk
   simp;refine⟨_,⟨true,b', -1,0,.inr (.inl ⟨rfl,rfl,rfl,hh,by rw[ag,if_pos rfl],λq hq=>by omega⟩),ay q1 (by omega),rfl⟩,?_⟩;exact r9 s hR fx (by simp[bU,Go.Sv.get]) (by simp[bu,fI]) (by simp[gz,bu,SV.lt]) (by simp[bu,ee])
  | false =>
   simp(disch:=omega)[];repeat refine asi ?_
   refine asl (iZ y) ?_;simp(disch:=omega)[ep hR,eo hR];repeat refine asi ?_
   refine qe (c:=c) (s:=s) (tl:=[_,_]) (b:=0) (sm:=false) (lv := -1) (wv:=0) (y := -y) (who := -1) (at':=0) hR (ao (fh q1) (by omega)) (ao (k:=1) (Proofs.cL (by omega)) (by omega)) λb' ab ac ad hk=>?_;obtain⟨rfl,rfl,rfl,rfl⟩:b' = -y∧ab=true∧ac = -1∧ad=0:=by
    rcases hk with⟨_,hk⟩ | ⟨hk,_⟩
    ·exact hk
    ·exact absurd (.inl rfl) hk
   simp;refine⟨_,⟨true, -y, -1,0,.inr (.inl ⟨rfl,rfl,rfl,hh,by rw[ag,if_neg (by simp)],λq hq=>by omega⟩),ay (fh q1) (by omega),rfl⟩,?_⟩;exact r9 s hR fx (by simp[bU,Go.Sv.get]) (by simp[bu,fI]) (by simp[gz,bu,SV.lt]) (by simp[bu,ee])
 ·have aj:(fZ c j up).has=false:=by simpa using hh
  simp(disch:=omega)[ep hR,aj];repeat refine asi ?_
  refine⟨_,⟨false,0, -1,0,.inl ⟨rfl,rfl,rfl,rfl,aj,λq hq=>by omega⟩,ay (k:=1) (Proofs.cL (by omega)) (by omega),rfl⟩,?_⟩;exact r9 s hR fx (by simp[bU,Go.Sv.get]) (by simp[bu,fI]) (by simp[gz,bu,SV.lt]) (by simp[bu,ee])
end Go.Proofs

