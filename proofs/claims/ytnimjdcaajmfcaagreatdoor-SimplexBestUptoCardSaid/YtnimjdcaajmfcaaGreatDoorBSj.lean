/- A text of the prover's own. -/
import Derived.Test.YtnimjdcaajmfcaaGreatDoorBSk
open Go.Proofs.Tryz renaming prog->awW,f77->axs
open Bool renaming and_assoc->avJ
set_option maxRecDepth 10000
namespace Go.Proofs
open Go.Sv Go Go.Tb Go.Pl Go.Ut Go.Li
theorem Ik(s:ByteArray)(h:s.size<=1048576):aG awW 67 [.val (.string s)] (.bP [aU (num s),.val (.bool (eA s))]):=F5 s (by omega)
theorem J3(s:ByteArray)(h:s.size<=1048576):aG awW 118 [.val (.string s)] (.bP [dh (mF s),.val (.bool (gX s))]):=by
 refine aj Tryz.func118 rfl (by simp) (λC hC=>?_);simp;by_cases h0:jz s=true
 ·have e:s=⟨#[]⟩:=of_decide_eq_true h0;simp[gX,mF,e,jz,Tk]
 ·have af:jz s=false:=by simpa using h0
  have e:¬s=⟨#[]⟩:=of_decide_eq_false af;simp[e];refine asl (Ik s h) ?_;simp[gX,mF,af,Ts]
theorem xP(s:ByteArray)(h:s.size<=1048576)(b:Bool):kv awW 116 [.val (.string s),.ptr 0 0 0] [some ⟨1,[.val (.bool b)],false⟩] [] (λT y=>T=[some ⟨1,[.val (.bool (b&&eA s))],false⟩]∧y=aU (num s)):=by
 refine gu Tryz.func116 rfl (by simp) (λC hC=>?_);simp;refine asl (Ik s h) ?_;cases b
 ·simp;exact⟨_,_,⟨rfl,rfl⟩,rfl,by simp,by simp,by simp⟩
 ·simp;exact⟨_,_,⟨rfl,rfl⟩,rfl,by simp,by simp,by simp⟩
theorem nK(s:ByteArray)(h:s.size<=1048576)(b:Bool):kv awW 117 [.val (.string s),.ptr 0 0 0] [some ⟨1,[.val (.bool b)],false⟩] [] (λT y=>T=[some ⟨1,[.val (.bool (b&&gX s))],false⟩]∧y=dh (mF s)):=by
 refine gu Tryz.func117 rfl (by simp) (λC hC=>?_);simp;refine asl (J3 s h) ?_;cases b
 ·simp;exact⟨_,_,⟨rfl,rfl⟩,rfl,by simp,by simp,by simp⟩
 ·simp;exact⟨_,_,⟨rfl,rfl⟩,rfl,by simp,by simp,by simp⟩
theorem D6(s:dC)(h:NR s):aG awW 75 [eQ s] (.bP [.dc (bN (dR s)) 0,.val (.bool (NW s))]):=by
 have nc:=h.nc;have nr:=h.nr;refine pR Tryz.func75 rfl (by simp) (λC hC=>?_);simp;refine mS (xP s.shift h.shift true) [2] (by simp) (by simp) (by simp) (by simp) (by simp) ?_;rintro T y ⟨rfl,rfl⟩;simp;repeat refine asi ?_
 refine aa.le (Le.iY 1 5 16 rfl rfl rfl rfl (by simp)) ?_;refine aa.loop (ι:=Nat) (λi=>⟨121,[(1,.ptr 0 0 0),(4,.ptr 1 0 0),(5,.ptr 2 0 0),(6,.jw 116 [] [.ptr 2 0 0]),(7,.jw 117 [] [.ptr 2 0 0]),(28,.ro (s.ab.map pB)),(29,iv s.ab.length),(30,iv i)],
   [some ⟨4,[eQ s],false⟩,some ⟨7,[.agg (cX s.max::((aU (num s.shift)).cells++[.view 3 0 i,.val (.slice none 0 0)]))],false⟩,some ⟨1,[cX (eA s.shift&&(s.ab.take i).all ru)],false⟩,some ⟨16,(s.ab.take i).map (λc=>ji (o7 c)),false⟩]⟩)
  (λi=>i<=s.ab.length) (λi=>s.ab.length - i) 0 (by omega) ?_ ?_
 ·simp[aR,hC]
 ·rintro i hi;by_cases aP:i<s.ab.length
  ·have hc:=h.ab i aP;simp(disch:=omega)[aP,uJ];repeat refine asi ?_
   generalize hb:(eA s.shift&&(s.ab.take i).all Li.ru)=b;refine aa.asj (.qs [0,1,2,3]<|.q 4 [2]<|.qs [5]<|.q 6 [2]<|.qs [7]<|.q 8 [2]<|.qs [9,10]<|.q 11 [2]<|.qs [13,14]<|.q 15 [2]<|.qs [17,18]<|.q 19 [2]<|.l 12 [2]<|.l 16 [2]<|.l 20 [2]<|.qs [21]<|.l 22 []<|.l 23 [1000000]<|.qs [24,25]<|.l 26 [1,1000000]<|.nil) ?_;simp;repeat refine asi ?_
   refine mS (nK (gt s.ab i).low hc.low b) [2] (by simp) (by simp) (by simp) (by simp) (by simp) ?_;rintro T y ⟨rfl,rfl⟩;simp;repeat refine asi ?_
   refine mS (nK (gt s.ab i).high hc.high (b&&gX (gt s.ab i).low)) [2] (by simp) (by simp) (by simp) (by simp) (by simp) ?_;rintro T y ⟨rfl,rfl⟩;simp;repeat refine asi ?_
   refine mS (xP (gt s.ab i).cost hc.cost (b&&gX (gt s.ab i).low&&gX (gt s.ab i).high)) [2] (by simp) (by simp) (by simp) (by simp) (by simp) ?_;rintro T y ⟨rfl,rfl⟩;simp;repeat refine asi ?_
   rw[OL];exact⟨⟨by simp[hC],by omega,by omega⟩,i+1,by omega,by omega,by simp(disch:=omega)[aR,hC,vH _ aP,kT _ aP,<-hb,Li.ru,o7,avJ,aK]⟩
  ·obtain rfl:i=s.ab.length:=by omega
   simp;refine aa.le (Le.iY 1 6 12 rfl rfl rfl rfl (by simp)) ?_;refine aa.loop (ι:=Nat) (λi=>⟨121,[(1,.ptr 0 0 0),(4,.ptr 1 0 0),(5,.ptr 2 0 0),(6,.jw 116 [] [.ptr 2 0 0]),(7,.jw 117 [] [.ptr 2 0 0]),(62,.ro (s.rows.map kG)),(63,iv s.rows.length),(64,iv i)],
     [some ⟨4,[eQ s],false⟩,some ⟨7,[.agg (cX s.max::((aU (num s.shift)).cells++[.view 3 0 s.ab.length,.view 4 0 i]))],false⟩,some ⟨1,[cX (eA s.shift&&s.ab.all Li.ru&&(s.rows.take i).all Li.Pe)],false⟩,some ⟨16,s.ab.map (λc=>ji (o7 c)),false⟩,some ⟨12,(s.rows.take i).map (λr=>iG (rowOf r)),false⟩]⟩)
    (λi=>i<=s.rows.length) (λi=>s.rows.length - i) 0 (by omega) ?_ ?_
   ·simp[aR,hC]
   ·rintro i hi;by_cases aP:i<s.rows.length
    ·have hr:=h.rows i aP;have ag:=hr.ab;have ak:=hr.fi.n;simp(disch:=omega)[aP,uN];repeat refine asi ?_
     generalize hb:(eA s.shift&&s.ab.all Li.ru&&(s.rows.take i).all Li.Pe)=b;refine aa.uR (.qs [0]<|.q 1 [2]<|.qs [2,3]<|.q 4 [2]<|.qs [6,7]<|.q 8 [2]<|.alt 5 [2] (.alt 9 [2] (.qs [10]<|.l 11 []<|.l 12 [6,1000000]<|.nil)<|.alt 11 [] (.l 9 [2]<|.qs [10]<|.l 12 [6,1000000]<|.nil)<|.stop)<|.alt 11 [] (.l 5 [2]<|.l 9 [2]<|.qs [10]<|.l 12 [6,1000000]<|.nil)<|.stop)
      ⟨121,[(1,.ptr 0 0 0),(4,.ptr 1 0 0),(5,.ptr 2 0 0),(6,.jw 116 [] [.ptr 2 0 0]),(7,.jw 117 [] [.ptr 2 0 0]),(11,.ptr 5 0 0),(12,.ptr 6 0 0),(62,.ro (s.rows.map kG)),(63,iv s.rows.length),(64,iv i)],
      [some ⟨4,[eQ s],false⟩,some ⟨7,[.agg (cX s.max::((aU (num s.shift)).cells++[.view 3 0 s.ab.length,.view 4 0 i]))],false⟩,some ⟨1,[cX (b&&gX (gt s.rows i).low&&gX (gt s.rows i).high)],false⟩,some ⟨16,s.ab.map (λc=>ji (o7 c)),false⟩,some ⟨12,(s.rows.take i).map (λr=>iG (rowOf r)),false⟩,
       some ⟨5,[kG (gt s.rows i)],false⟩,some ⟨12,[.agg (eF (gt s.rows i).name::.val (.slice none 0 0)::((dh (mF (gt s.rows i).low)).cells++(dh (mF (gt s.rows i).high)).cells))],false⟩]⟩ (by kernel_rfl) (by kernel_rfl) ?_ ?_
     ·simp;refine⟨?_,?_⟩
      ·refine mS (nK (gt s.rows i).low hr.low b) [2] (by simp) (by simp) (by simp) (by simp) (by simp) ?_;rintro T y ⟨rfl,rfl⟩;simp;repeat refine asi ?_
       refine⟨?_,?_⟩
       ·refine mS (nK (gt s.rows i).high hr.high (b&&gX (gt s.rows i).low)) [2] (by simp) (by simp) (by simp) (by simp) (by simp) ?_;rintro T y ⟨rfl,rfl⟩;simp;repeat refine asi ?_
        simp[aR,hC]
       ·refine mS (nK (gt s.rows i).high hr.high (b&&gX (gt s.rows i).low)) [2] (by simp) (by simp) (by simp) (by simp) (by simp) ?_;rintro T y ⟨rfl,rfl⟩;simp;repeat refine asi ?_
        simp[aR,hC]
      ·refine mS (nK (gt s.rows i).low hr.low b) [2] (by simp) (by simp) (by simp) (by simp) (by simp) ?_;rintro T y ⟨rfl,rfl⟩;simp;repeat refine asi ?_
       refine mS (nK (gt s.rows i).high hr.high (b&&gX (gt s.rows i).low)) [2] (by simp) (by simp) (by simp) (by simp) (by simp) ?_;rintro T y ⟨rfl,rfl⟩;simp;repeat refine asi ?_
       simp[aR,hC]
     ·simp;refine aa.le (Le.iY 6 1 5 rfl rfl rfl rfl (by simp)) ?_;have hz:=pT (gt s.rows i);refine aa.loop (ι:=Nat) (λj=>⟨121,[(1,.ptr 0 0 0),(4,.ptr 1 0 0),(5,.ptr 2 0 0),(6,.jw 116 [] [.ptr 2 0 0]),(7,.jw 117 [] [.ptr 2 0 0]),(11,.ptr 5 0 0),(12,.ptr 6 0 0),(62,.ro (s.rows.map kG)),(63,iv s.rows.length),(64,iv i),(85,iv (gC (gt s.rows i)).length),(86,iv j)],
       [some ⟨4,[eQ s],false⟩,some ⟨7,[.agg (cX s.max::((aU (num s.shift)).cells++[.view 3 0 s.ab.length,.view 4 0 i]))],false⟩,some ⟨1,[cX (b&&gX (gt s.rows i).low&&gX (gt s.rows i).high&&((gC (gt s.rows i)).take j).all λz=>eA z.2)],false⟩,some ⟨16,s.ab.map (λc=>ji (o7 c)),false⟩,some ⟨12,(s.rows.take i).map (λr=>iG (rowOf r)),false⟩,
        some ⟨5,[kG (gt s.rows i)],false⟩,some ⟨12,[.agg (eF (gt s.rows i).name::.view 7 0 j::((dh (mF (gt s.rows i).low)).cells++(dh (mF (gt s.rows i).high)).cells))],false⟩,some ⟨5,((gC (gt s.rows i)).take j).map (λz=>iB (rY z)),false⟩]⟩)
       (λj=>j<=(gC (gt s.rows i)).length) (λj=>(gC (gt s.rows i)).length - j) 0 (by omega) ?_ ?_
      ·have al:((gC (gt s.rows i)).length:Int)=min ((gt s.rows i).ab.length:Int) ((gt s.rows i).fi.length:Int):=by omega
       simp[aR,hC,aX,al]
      ·rintro j hj;by_cases ac:j<(gC (gt s.rows i)).length
       ·have h1:j<(gt s.rows i).ab.length:=by omega
        have h2:j<(gt s.rows i).fi.length:=by omega
        have h3:=hr.fi.s _ (gZ h2);simp(disch:=omega)[ac];repeat refine asi ?_
        generalize ad:(b&&gX (gt s.rows i).low&&gX (gt s.rows i).high&&((gC (gt s.rows i)).take j).all λz=>eA z.2)=b2;refine aa.asj (.q 0 []<|.q 1 [2]<|.qs [2]<|.q 3 [2]<|.qs [4,5]<|.q 6 [2]<|.qs [7,8]<|.q 9 [2]<|.qs [10,11]<|.q 12 [2]<|.l 13 [2]<|.qs [14]<|.l 15 []<|.l 16 [1000000]<|.qs [17]<|.l 18 [6,1000000]<|.nil) ?_;simp(disch:=omega)[h1,h2,cf,mQ];repeat refine asi ?_
        refine mS (xP (gt (gt s.rows i).fi j) h3 b2) [2] (by simp) (by simp) (by simp) (by simp) (by simp) ?_;rintro T y ⟨rfl,rfl⟩;simp;repeat refine asi ?_
        rw[LK];exact⟨⟨by simp[hC],by omega,by omega⟩,j+1,by omega,by omega,by simp(disch:=omega)[aR,hC,vH _ ac,kT _ ac,<-ad,rY,Bx ac,avJ,aK]⟩
       ·obtain rfl:j=(gC (gt s.rows i)).length:=by omega
        simp;refine aa.CE 7 rfl (by simp) ?_;simp[rm,aX];refine aa.asj (.qs [0,1,2,3,4,5]<|.l 6 []<|.l 7 [1000000]<|.qs [8,9]<|.l 10 [1,1000000]<|.nil) ?_;simp;rw[<-Pr];exact⟨⟨by simp[hC],by omega,by omega⟩,i+1,by omega,by omega,by simp(disch:=omega)[aR,hC,vH _ aP,kT _ aP,<-hb,Pe,avJ,aK]⟩
    ·obtain rfl:i=s.rows.length:=by omega
     simp;refine aa.CE 4 rfl (by simp) ?_;simp[rm,aX];refine aa.CE 3 rfl (by simp) ?_;simp[rm,aX];refine aa.CE 1 rfl (by simp) ?_;simp[rm,aX];rw[<-KF];refine aa.asj (.qs [0,1,2,3]<|.nil) ?_;simp[NW];refine⟨_,Le.refl _ _,?_⟩;simp
end Go.Proofs
namespace Go.Proofs
open Go.Sv Go Go.Tb Go.Pl Go.Ut Go.Li
theorem J7(s:dC)(h:NR s):aG awW 115 [eQ s,.val (.bool false)] (.bP [rE s,.val (.bool (NW s))]):=by
 have nc:=h.nc;have nr:=h.nr;refine pR Tryz.func115 rfl (by simp) (λC hC=>?_);simp;refine asl (nN s.shift h.shift) ?_;simp[CZ];refine aa.le (Le.iY 2 5 16 rfl rfl rfl rfl (by simp)) ?_;refine aa.loop (ι:=Nat) (λi=>⟨193,[(1,cX false),(2,.ptr 0 0 0),(4,.ptr 1 0 0),(6,.ptr 2 0 0),(9,cX (eA s.shift&&(s.ab.take i).all Li.ru)),(10,iv i)],
   [some ⟨4,[eQ s],false⟩,some ⟨7,[.agg [.val (.bool false),.val (.bool false),.val (.slice none 0 0),.val (.bool false),.val (.slice none 0 0),.val (.slice none 0 0),.val (.slice none 0 0)]],false⟩,some ⟨7,[.agg (cX s.max::((qb (lf s.shift)).cells++[.view 5 0 i,.val (.slice none 0 0)]))],false⟩,some ⟨4,[qb (lf s.shift)],false⟩,some ⟨2,[CZ s.shift],false⟩,some ⟨16,(s.ab.take i).map we,false⟩]⟩)
  (λi=>i<=s.ab.length) (λi=>s.ab.length - i) 0 (by omega) ?_ ?_
 ·simp[aR,hC,aX,CZ,eA]
 ·rintro i hi;by_cases aP:i<s.ab.length
  ·have hc:=h.ab i aP;simp(disch:=omega)[aP,uJ];repeat refine asi ?_
   generalize hb:(eA s.shift&&(s.ab.take i).all Li.ru)=b;have e:(eA s.shift&&(s.ab.take (i+1)).all Li.ru)=(b&&(gX (gt s.ab i).low&&gX (gt s.ab i).high&&decide ((fy 300 (gt s.ab i).cost).2.1=0))):=by rw[kT _ aP,<-avJ,hb];rfl
   refine asl (qm (gt s.ab i).low hc.low) ?_;simp;refine asl (qm (gt s.ab i).high hc.high) ?_;simp;refine asl (nN (gt s.ab i).cost hc.cost) ?_;simp[CZ]
   repeat' (apply And.intro<;>intro _)
   all_goals
    refine⟨⟨by simp[hC],by omega,by omega⟩,i+1,by omega,by omega,?_⟩;rw[Qk];simp(disch:=omega)[aR,vH _ aP,aK, *]
  ·obtain rfl:i=s.ab.length:=by omega
   simp;refine aa.le (Le.iY 2 6 13 rfl rfl rfl rfl (by simp)) ?_;refine aa.bM (ι:=Nat) (λi=>⟨193,[(1,cX false),(2,.ptr 0 0 0),(4,.ptr 1 0 0),(6,.ptr 2 0 0),(9,cX (eA s.shift&&s.ab.all Li.ru&&(s.rows.take i).all Pe)),(18,iv i)],
     [some ⟨4,[eQ s],false⟩,some ⟨7,[.agg [.val (.bool false),.val (.bool false),.val (.slice none 0 0),.val (.bool false),.val (.slice none 0 0),.val (.slice none 0 0),.val (.slice none 0 0)]],false⟩,some ⟨7,[.agg (cX s.max::((qb (lf s.shift)).cells++[.view 5 0 s.ab.length,.view 6 0 i]))],false⟩,some ⟨4,[qb (lf s.shift)],false⟩,some ⟨2,[CZ s.shift],false⟩,some ⟨16,s.ab.map we,false⟩,some ⟨13,(s.rows.take i).map yU,false⟩]⟩)
    (λi=>i<=s.rows.length) (λi=>s.rows.length - i) 0 (by omega) ?_ ?_
   ·simp[aR,hC,aX];done
   ·rintro i hi;by_cases aP:i<s.rows.length
    ·have hr:=h.rows i aP;have ag:=hr.ab;have ak:=hr.fi.n;simp(disch:=omega)[aP,uN];repeat refine asi ?_
     generalize hb:(eA s.shift&&s.ab.all Li.ru&&(s.rows.take i).all Pe)=b;refine asl (qm (gt s.rows i).low hr.low) ?_;simp;refine asl (qm (gt s.rows i).high hr.high) ?_;simp;have hz:=pT (gt s.rows i)
     repeat' (apply And.intro<;>intro _)
     all_goals
      refine aa.le (Le.iY 10 1 1 rfl rfl rfl rfl (by simp)) ?_;simp[aX];refine aa.le (Le.iY 10 2 4 rfl rfl rfl rfl (by simp)) ?_;refine aa.loop (ι:=Nat) (λj=>⟨193,[(1,cX false),(2,.ptr 0 0 0),(4,.ptr 1 0 0),(6,.ptr 2 0 0),(9,cX (b&&gX (gt s.rows i).low&&gX (gt s.rows i).high&&((gC (gt s.rows i)).take j).all λz=>eA z.2)),(18,iv i),(19,.ptr 7 0 0),(24,.ptr 10 0 0),(25,iv j)],
       [some ⟨4,[eQ s],false⟩,some ⟨7,[.agg [.val (.bool false),.val (.bool false),.val (.slice none 0 0),.val (.bool false),.val (.slice none 0 0),.val (.slice none 0 0),.val (.slice none 0 0)]],false⟩,some ⟨7,[.agg (cX s.max::((qb (lf s.shift)).cells++[.view 5 0 s.ab.length,.view 6 0 i]))],false⟩,some ⟨4,[qb (lf s.shift)],false⟩,some ⟨2,[CZ s.shift],false⟩,some ⟨16,s.ab.map we,false⟩,some ⟨13,(s.rows.take i).map yU,false⟩,
        some ⟨5,[kG (gt s.rows i)],false⟩,some ⟨5,[rB (!jz (gt s.rows i).low) (Ea (gt s.rows i).low)],false⟩,some ⟨5,[rB (!jz (gt s.rows i).high) (Ea (gt s.rows i).high)],false⟩,
        some ⟨13,[.agg (eF (gt s.rows i).name::.view 11 0 j::.view 12 0 j::((rB (!jz (gt s.rows i).low) (Ea (gt s.rows i).low)).cells++(rB (!jz (gt s.rows i).high) (Ea (gt s.rows i).high)).cells))],false⟩,some ⟨1,((gC (gt s.rows i)).take j).map (λz=>iv z.1),false⟩,some ⟨4,((gC (gt s.rows i)).take j).map (λz=>qb (lf z.2)),false⟩]⟩)
       (λj=>j<=(gC (gt s.rows i)).length) (λj=>(gC (gt s.rows i)).length - j) 0 (by omega) ?_ ?_
      ·simp[aR,aX, *]
      ·rintro j hj;by_cases ac:j<(gC (gt s.rows i)).length
       ·have h1:j<(gt s.rows i).ab.length:=by omega
        have h2:j<(gt s.rows i).fi.length:=by omega
        have h3:=hr.fi.s _ (gZ h2);simp(disch:=omega)[mQ,h1,h2];repeat refine asi ?_
        generalize ad:(b&&gX (gt s.rows i).low&&gX (gt s.rows i).high&&((gC (gt s.rows i)).take j).all λz=>eA z.2)=b2;have e:(b&&gX (gt s.rows i).low&&gX (gt s.rows i).high&&((gC (gt s.rows i)).take (j+1)).all λz=>eA z.2)=(b2&&decide ((fy 300 (gt (gt s.rows i).fi j)).2.1=0)):=by rw[kT _ ac,<-avJ,ad,Bx ac];rfl
        refine asl (nN (gt (gt s.rows i).fi j) h3) ?_;simp[CZ]
        repeat' (apply And.intro<;>intro _)
        all_goals
         refine aa.asj (.qs [0,1,2,3,4,5,6]<|.l 7 []<|.l 8 [1000000]<|.qs [9]<|.l 10 [10,1000000]<|.nil) ?_;simp(disch:=omega)[h1,cf];repeat refine asi ?_
         rename_i q;refine⟨⟨by simp[hC],by omega⟩,⟨by simp[hC],by omega⟩,j+1,by omega,by omega,?_⟩;simp(disch:=omega)[aR,hC,vH _ ac,Bx ac,e,aK,q]
       ·obtain rfl:j=(gC (gt s.rows i)).length:=by omega
        by_cases h1:(gC (gt s.rows i)).length<(gt s.rows i).ab.length;all_goals
         simp(disch:=omega)[h1,aK];repeat refine asi ?_
         repeat' (intro _)
         have e:(eA s.shift&&s.ab.all Li.ru&&(s.rows.take (i+1)).all Pe)=(b&&(gX (gt s.rows i).low&&gX (gt s.rows i).high&&(gC (gt s.rows i)).all λz=>eA z.2)):=by rw[kT _ aP,<-avJ,hb];rfl
         refine⟨⟨by simp[hC],by omega⟩,i+1,by omega,by omega,?_⟩;refine(Le.CE 12 rfl (by simp)).trans ?_;simp[rm,aX];refine(Le.CE 11 rfl (by simp)).trans ?_;simp[rm,aX];rw[<-Ob];refine Le.fm ?_;simp(disch:=omega)[aR,hC,vH _ aP,e,avJ]
    ·obtain rfl:i=s.rows.length:=by omega
     simp;refine⟨_,(Le.CE 6 rfl (by simp)).trans (Le.CE 5 rfl (by simp)),?_⟩;simp[rm,aX];rw[<-Nt];exact⟨j8 _ _ rfl,rfl⟩
theorem K4(s:dC)(h:NR s):aG awW 74 [eQ s] (.bP [rE s,.val (.bool (NW s))]):=by refine aj Tryz.func74 rfl (by simp) (λC hC=>?_);simp;refine asl (J7 s h) ?_;simp
end Go.Proofs
set_option maxRecDepth 10000
namespace Go.Sx
open Go Go.Sv Go.Pl Go.Proofs Go.Tb Go.Ut Go.Mx Go.Li Go.Dt
def fA(p:aB)(n m N:Nat):SV:=.agg [.dc (bN p) 0,iv n,iv m,.val (.slice none 0 0),.val (.slice none 0 0),.view 4 0 N,.view 1 0 N,.view 2 0 N,.val (.slice none 0 0),.view 3 0 N,.val (.slice none 0 0)]
def Qw(p:aB)(n m N:Nat):aD:=[some ⟨11,[fA p n m N],false⟩,some ⟨1,zi N,false⟩,some ⟨4,zr N,false⟩,some ⟨1,zi N,false⟩,some ⟨4,zr N,false⟩]
end Go.Sx
namespace Go.Proofs
open Go.Sv Go Go.Tb Go.Pl Go.Ut Go.Mx Go.Li Go.Dt Go.Sx
theorem Ty(p:aB)(n m N:Nat)(hn:p.ab.length=n)(hm:p.rows.length=m)(hN:n+m=N)(am:N<=14){C:Ctx}(hC:C.fx=[]){Q:bf}(ae:∀c st,¬Q (.panic c) st)(hQ:aa awW C (bs 4 aE) ⟨217,[(0,.dc (bN p) 0),(3,.ptr 0 0 0),(4,iv N)],Qw p n m N⟩ Q) :
  aa awW C aE ⟨217,[(0,.dc (bN p) 0)],[]⟩ Q:=by
 refine aa.cutAt 3 (λst=>st=⟨217,[(0,.dc (bN p) 0),(3,.ptr 0 0 0),(4,iv N)],[some ⟨11,[.agg [.dc (bN p) 0,iv n,iv m,.val (.slice none 0 0),.val (.slice none 0 0),.val (.slice none 0 0),.val (.slice none 0 0),.val (.slice none 0 0),.val (.slice none 0 0),.val (.slice none 0 0),.val (.slice none 0 0)]],false⟩]⟩) ?_ ?_
 ·simp only[aE,axs,Option.getD_some,aN,aM];simp;refine aa.draw (.qs [0,1,2,3,4,5,6,7,8,9,10,11]<|.l 12 []<|.qs [13]<|.nil) (by kernel_rfl) (by kernel_rfl) (by simpa using ae) ?_;simp(disch:=omega)[bN,hn,hm];repeat refine asi ?_
  refine aa.draw (.qs [0,1,2,3,4,5,6,7,8,9]<|.nil) (by kernel_rfl) (by kernel_rfl) (by simpa using ae) ?_;have wr:IntKind.i64.wrap ((n:Int)+m)=(N:Int):=by simp(disch:=omega)[aK];omega
  simp(disch:=omega)[wr];repeat refine asi ?_
  exact⟨rfl,by simp[bU,Go.Sv.get],aq _,.inl rfl⟩
 ·rintro st rfl;have fl:=YO (p:=p) (n:=n) (m:=m) (N:=N) (C:=C) (R:=sY (λst'=>aa awW C (bs 4 aE) st' Q) Q) ⟨hC,λc st=>ae c st,am,?_⟩
  rotate_left 1
  ·show aa _ _ _ _ _;have eM:(frS p n m N 4 4 4 4).M=Qw p n m N:=by simp[frS,fre,frc,sgb,Qw,fA]
   exact aa.le (Le.fm (st:=frS p n m N 4 4 4 4) (st':=⟨217,[(0,.dc (bN p) 0),(3,.ptr 0 0 0),(4,iv N)],Qw p n m N⟩) ⟨rfl,by simp[bU,Go.Sv.get,frS,frq,frv],by rw[eM];exact aq _,.inl rfl⟩) hQ
  simp only[aE,axs,Option.getD_some,ai,ah]at fl ⊢;exact aa.Cb (aa.Zx (ops:=aI) AP (by kernel_rfl) Oi (by rw[show frS0 p n m N=_ from rfl]at fl;exact fl))
end Go.Proofs

