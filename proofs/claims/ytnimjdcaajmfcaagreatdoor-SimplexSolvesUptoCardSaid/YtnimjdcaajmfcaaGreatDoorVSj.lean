/- A text of the prover's own. -/
import Derived.Test.YtnimjdcaajmfcaaGreatDoorVSk
open Go.Proofs.Tryz renaming prog->ay9,f77->aB0
open Bool renaming and_assoc->aB1
set_option maxRecDepth 10000
namespace Go.Proofs
open Go.Sv Go Go.Tb Go.Pl Go.Ut Go.Li
theorem Kk(s:ByteArray)(h:s.size<=1048576):aE ay9 67 [.val (.string s)] (.bM [aS (num s),.val (.bool (eZ s))]):=Iq s (by omega)
theorem MC(s:ByteArray)(h:s.size<=1048576):aE ay9 118 [.val (.string s)] (.bM [dA (nY s),.val (.bool (ix s))]):=by
 refine aj Tryz.func118 rfl (by simp) (λC hC=>?_);simp;by_cases h0:ko s=true
 ·have e:s=⟨#[]⟩:=of_decide_eq_true h0;simp[ix,nY,e,ko,Vs]
 ·have af:ko s=false:=by simpa using h0
  have e:¬s=⟨#[]⟩:=of_decide_eq_false af;simp[e];refine awI (Kk s h) ?_;simp[ix,nY,af,Xq]
theorem zB(s:ByteArray)(h:s.size<=1048576)(b:Bool):kZ ay9 116 [.val (.string s),.ptr 0 0 0] [some ⟨1,[.val (.bool b)],false⟩] [] (λT y=>T=[some ⟨1,[.val (.bool (b&&eZ s))],false⟩]∧y=aS (num s)):=by
 refine gV Tryz.func116 rfl (by simp) (λC hC=>?_);simp;refine awI (Kk s h) ?_;cases b
 ·simp;exact⟨_,_,⟨rfl,rfl⟩,rfl,by simp,by simp,by simp⟩
 ·simp;exact⟨_,_,⟨rfl,rfl⟩,rfl,by simp,by simp,by simp⟩
theorem pn(s:ByteArray)(h:s.size<=1048576)(b:Bool):kZ ay9 117 [.val (.string s),.ptr 0 0 0] [some ⟨1,[.val (.bool b)],false⟩] [] (λT y=>T=[some ⟨1,[.val (.bool (b&&ix s))],false⟩]∧y=dA (nY s)):=by
 refine gV Tryz.func117 rfl (by simp) (λC hC=>?_);simp;refine awI (MC s h) ?_;cases b
 ·simp;exact⟨_,_,⟨rfl,rfl⟩,rfl,by simp,by simp,by simp⟩
 ·simp;exact⟨_,_,⟨rfl,rfl⟩,rfl,by simp,by simp,by simp⟩
theorem Fi(s:dS)(h:QN s):aE ay9 75 [fJ s] (.bM [.dG (bS (ee s)) 0,.val (.bool (QK s))]):=by
 have nc:=h.nc;have nr:=h.nr;refine nB Tryz.func75 rfl (by simp) (λC hC=>?_);simp;refine m5 (zB s.shift h.shift true) [2] (by simp) (by simp) (by simp) (by simp) (by simp) ?_;rintro T y ⟨rfl,rfl⟩;simp;repeat refine awG ?_
 refine aa.le (Le.iO 1 5 16 rfl rfl rfl rfl (by simp)) ?_;refine aa.loop (ι:=Nat) (λi=>⟨121,[(1,.ptr 0 0 0),(4,.ptr 1 0 0),(5,.ptr 2 0 0),(6,.j7 116 [] [.ptr 2 0 0]),(7,.j7 117 [] [.ptr 2 0 0]),(28,.ro (s.ai.map rI)),(29,iv s.ai.length),(30,iv i)],
   [some ⟨4,[fJ s],false⟩,some ⟨7,[.agg (dr s.max::((aS (num s.shift)).cells++[.view 3 0 i,.val (.slice none 0 0)]))],false⟩,some ⟨1,[dr (eZ s.shift&&(s.ai.take i).all sZ)],false⟩,some ⟨16,(s.ai.take i).map (λc=>jv (rn c)),false⟩]⟩)
  (λi=>i<=s.ai.length) (λi=>s.ai.length - i) 0 (by omega) ?_ ?_
 ·simp[aP,hC]
 ·rintro i hi;by_cases aR:i<s.ai.length
  ·have hc:=h.ai i aR;simp(disch:=omega)[aR,xF];repeat refine awG ?_
   generalize hb:(eZ s.shift&&(s.ai.take i).all Li.sZ)=b;refine aa.awH (.qs [0,1,2,3]<|.q 4 [2]<|.qs [5]<|.q 6 [2]<|.qs [7]<|.q 8 [2]<|.qs [9,10]<|.q 11 [2]<|.qs [13,14]<|.q 15 [2]<|.qs [17,18]<|.q 19 [2]<|.l 12 [2]<|.l 16 [2]<|.l 20 [2]<|.qs [21]<|.l 22 []<|.l 23 [1000000]<|.qs [24,25]<|.l 26 [1,1000000]<|.nil) ?_;simp;repeat refine awG ?_
   refine m5 (pn (gt s.ai i).low hc.low b) [2] (by simp) (by simp) (by simp) (by simp) (by simp) ?_;rintro T y ⟨rfl,rfl⟩;simp;repeat refine awG ?_
   refine m5 (pn (gt s.ai i).high hc.high (b&&ix (gt s.ai i).low)) [2] (by simp) (by simp) (by simp) (by simp) (by simp) ?_;rintro T y ⟨rfl,rfl⟩;simp;repeat refine awG ?_
   refine m5 (zB (gt s.ai i).cost hc.cost (b&&ix (gt s.ai i).low&&ix (gt s.ai i).high)) [2] (by simp) (by simp) (by simp) (by simp) (by simp) ?_;rintro T y ⟨rfl,rfl⟩;simp;repeat refine awG ?_
   rw[SX];exact⟨⟨by simp[hC],by omega,by omega⟩,i+1,by omega,by omega,by simp(disch:=omega)[aP,hC,oY _ aR,mg _ aR,<-hb,Li.sZ,rn,aB1,aD]⟩
  ·obtain rfl:i=s.ai.length:=by omega
   simp;refine aa.le (Le.iO 1 6 12 rfl rfl rfl rfl (by simp)) ?_;refine aa.loop (ι:=Nat) (λi=>⟨121,[(1,.ptr 0 0 0),(4,.ptr 1 0 0),(5,.ptr 2 0 0),(6,.j7 116 [] [.ptr 2 0 0]),(7,.j7 117 [] [.ptr 2 0 0]),(62,.ro (s.rows.map lq)),(63,iv s.rows.length),(64,iv i)],
     [some ⟨4,[fJ s],false⟩,some ⟨7,[.agg (dr s.max::((aS (num s.shift)).cells++[.view 3 0 s.ai.length,.view 4 0 i]))],false⟩,some ⟨1,[dr (eZ s.shift&&s.ai.all Li.sZ&&(s.rows.take i).all Li.Q9)],false⟩,some ⟨16,s.ai.map (λc=>jv (rn c)),false⟩,some ⟨12,(s.rows.take i).map (λr=>je (rowOf r)),false⟩]⟩)
    (λi=>i<=s.rows.length) (λi=>s.rows.length - i) 0 (by omega) ?_ ?_
   ·simp[aP,hC]
   ·rintro i hi;by_cases aR:i<s.rows.length
    ·have hr:=h.rows i aR;have ag:=hr.ai;have ak:=hr.jD.n;simp(disch:=omega)[aR,wV];repeat refine awG ?_
     generalize hb:(eZ s.shift&&s.ai.all Li.sZ&&(s.rows.take i).all Li.Q9)=b;refine aa.xD (.qs [0]<|.q 1 [2]<|.qs [2,3]<|.q 4 [2]<|.qs [6,7]<|.q 8 [2]<|.alt 5 [2] (.alt 9 [2] (.qs [10]<|.l 11 []<|.l 12 [6,1000000]<|.nil)<|.alt 11 [] (.l 9 [2]<|.qs [10]<|.l 12 [6,1000000]<|.nil)<|.stop)<|.alt 11 [] (.l 5 [2]<|.l 9 [2]<|.qs [10]<|.l 12 [6,1000000]<|.nil)<|.stop)
      ⟨121,[(1,.ptr 0 0 0),(4,.ptr 1 0 0),(5,.ptr 2 0 0),(6,.j7 116 [] [.ptr 2 0 0]),(7,.j7 117 [] [.ptr 2 0 0]),(11,.ptr 5 0 0),(12,.ptr 6 0 0),(62,.ro (s.rows.map lq)),(63,iv s.rows.length),(64,iv i)],
      [some ⟨4,[fJ s],false⟩,some ⟨7,[.agg (dr s.max::((aS (num s.shift)).cells++[.view 3 0 s.ai.length,.view 4 0 i]))],false⟩,some ⟨1,[dr (b&&ix (gt s.rows i).low&&ix (gt s.rows i).high)],false⟩,some ⟨16,s.ai.map (λc=>jv (rn c)),false⟩,some ⟨12,(s.rows.take i).map (λr=>je (rowOf r)),false⟩,
       some ⟨5,[lq (gt s.rows i)],false⟩,some ⟨12,[.agg (fN (gt s.rows i).name::.val (.slice none 0 0)::((dA (nY (gt s.rows i).low)).cells++(dA (nY (gt s.rows i).high)).cells))],false⟩]⟩ (by kernel_rfl) (by kernel_rfl) ?_ ?_
     ·simp;refine⟨?_,?_⟩
      ·refine m5 (pn (gt s.rows i).low hr.low b) [2] (by simp) (by simp) (by simp) (by simp) (by simp) ?_;rintro T y ⟨rfl,rfl⟩;simp;repeat refine awG ?_
       refine⟨?_,?_⟩
       ·refine m5 (pn (gt s.rows i).high hr.high (b&&ix (gt s.rows i).low)) [2] (by simp) (by simp) (by simp) (by simp) (by simp) ?_;rintro T y ⟨rfl,rfl⟩;simp;repeat refine awG ?_
        simp[aP,hC]
       ·refine m5 (pn (gt s.rows i).high hr.high (b&&ix (gt s.rows i).low)) [2] (by simp) (by simp) (by simp) (by simp) (by simp) ?_;rintro T y ⟨rfl,rfl⟩;simp;repeat refine awG ?_
        simp[aP,hC]
      ·refine m5 (pn (gt s.rows i).low hr.low b) [2] (by simp) (by simp) (by simp) (by simp) (by simp) ?_;rintro T y ⟨rfl,rfl⟩;simp;repeat refine awG ?_
       refine m5 (pn (gt s.rows i).high hr.high (b&&ix (gt s.rows i).low)) [2] (by simp) (by simp) (by simp) (by simp) (by simp) ?_;rintro T y ⟨rfl,rfl⟩;simp;repeat refine awG ?_
       simp[aP,hC]
     ·simp;refine aa.le (Le.iO 6 1 5 rfl rfl rfl rfl (by simp)) ?_;have hz:=rC (gt s.rows i);refine aa.loop (ι:=Nat) (λj=>⟨121,[(1,.ptr 0 0 0),(4,.ptr 1 0 0),(5,.ptr 2 0 0),(6,.j7 116 [] [.ptr 2 0 0]),(7,.j7 117 [] [.ptr 2 0 0]),(11,.ptr 5 0 0),(12,.ptr 6 0 0),(62,.ro (s.rows.map lq)),(63,iv s.rows.length),(64,iv i),(85,iv (gY (gt s.rows i)).length),(86,iv j)],
       [some ⟨4,[fJ s],false⟩,some ⟨7,[.agg (dr s.max::((aS (num s.shift)).cells++[.view 3 0 s.ai.length,.view 4 0 i]))],false⟩,some ⟨1,[dr (b&&ix (gt s.rows i).low&&ix (gt s.rows i).high&&((gY (gt s.rows i)).take j).all λz=>eZ z.2)],false⟩,some ⟨16,s.ai.map (λc=>jv (rn c)),false⟩,some ⟨12,(s.rows.take i).map (λr=>je (rowOf r)),false⟩,
        some ⟨5,[lq (gt s.rows i)],false⟩,some ⟨12,[.agg (fN (gt s.rows i).name::.view 7 0 j::((dA (nY (gt s.rows i).low)).cells++(dA (nY (gt s.rows i).high)).cells))],false⟩,some ⟨5,((gY (gt s.rows i)).take j).map (λz=>ji (uk z)),false⟩]⟩)
       (λj=>j<=(gY (gt s.rows i)).length) (λj=>(gY (gt s.rows i)).length - j) 0 (by omega) ?_ ?_
      ·have al:((gY (gt s.rows i)).length:Int)=min ((gt s.rows i).ai.length:Int) ((gt s.rows i).jD.length:Int):=by omega
       simp[aP,hC,aX,al]
      ·rintro j hj;by_cases ac:j<(gY (gt s.rows i)).length
       ·have h1:j<(gt s.rows i).ai.length:=by omega
        have h2:j<(gt s.rows i).jD.length:=by omega
        have h3:=hr.jD.s _ (iW h2);simp(disch:=omega)[ac];repeat refine awG ?_
        generalize ad:(b&&ix (gt s.rows i).low&&ix (gt s.rows i).high&&((gY (gt s.rows i)).take j).all λz=>eZ z.2)=b2;refine aa.awH (.q 0 []<|.q 1 [2]<|.qs [2]<|.q 3 [2]<|.qs [4,5]<|.q 6 [2]<|.qs [7,8]<|.q 9 [2]<|.qs [10,11]<|.q 12 [2]<|.l 13 [2]<|.qs [14]<|.l 15 []<|.l 16 [1000000]<|.qs [17]<|.l 18 [6,1000000]<|.nil) ?_;simp(disch:=omega)[h1,h2,cf,ri];repeat refine awG ?_
        refine m5 (zB (gt (gt s.rows i).jD j) h3 b2) [2] (by simp) (by simp) (by simp) (by simp) (by simp) ?_;rintro T y ⟨rfl,rfl⟩;simp;repeat refine awG ?_
        rw[PY];exact⟨⟨by simp[hC],by omega,by omega⟩,j+1,by omega,by omega,by simp(disch:=omega)[aP,hC,oY _ ac,mg _ ac,<-ad,uk,DL ac,aB1,aD]⟩
       ·obtain rfl:j=(gY (gt s.rows i)).length:=by omega
        simp;refine aa.uO 7 rfl (by simp) ?_;simp[lZ,aX];refine aa.awH (.qs [0,1,2,3,4,5]<|.l 6 []<|.l 7 [1000000]<|.qs [8,9]<|.l 10 [1,1000000]<|.nil) ?_;simp;rw[<-Rh];exact⟨⟨by simp[hC],by omega,by omega⟩,i+1,by omega,by omega,by simp(disch:=omega)[aP,hC,oY _ aR,mg _ aR,<-hb,Q9,aB1,aD]⟩
    ·obtain rfl:i=s.rows.length:=by omega
     simp;refine aa.uO 4 rfl (by simp) ?_;simp[lZ,aX];refine aa.uO 3 rfl (by simp) ?_;simp[lZ,aX];refine aa.uO 1 rfl (by simp) ?_;simp[lZ,aX];rw[<-PN];refine aa.awH (.qs [0,1,2,3]<|.nil) ?_;simp[QK];refine⟨_,Le.refl _ _,?_⟩;simp
end Go.Proofs
namespace Go.Proofs
open Go.Sv Go Go.Tb Go.Pl Go.Ut Go.Li
theorem LU(s:dS)(h:QN s):aE ay9 115 [fJ s,.val (.bool false)] (.bM [tq s,.val (.bool (QK s))]):=by
 have nc:=h.nc;have nr:=h.nr;refine nB Tryz.func115 rfl (by simp) (λC hC=>?_);simp;refine awI (o5 s.shift h.shift) ?_;simp[E0];refine aa.le (Le.iO 2 5 16 rfl rfl rfl rfl (by simp)) ?_;refine aa.loop (ι:=Nat) (λi=>⟨193,[(1,dr false),(2,.ptr 0 0 0),(4,.ptr 1 0 0),(6,.ptr 2 0 0),(9,dr (eZ s.shift&&(s.ai.take i).all Li.sZ)),(10,iv i)],
   [some ⟨4,[fJ s],false⟩,some ⟨7,[.agg [.val (.bool false),.val (.bool false),.val (.slice none 0 0),.val (.bool false),.val (.slice none 0 0),.val (.slice none 0 0),.val (.slice none 0 0)]],false⟩,some ⟨7,[.agg (dr s.max::((qb (mb s.shift)).cells++[.view 5 0 i,.val (.slice none 0 0)]))],false⟩,some ⟨4,[qb (mb s.shift)],false⟩,some ⟨2,[E0 s.shift],false⟩,some ⟨16,(s.ai.take i).map yI,false⟩]⟩)
  (λi=>i<=s.ai.length) (λi=>s.ai.length - i) 0 (by omega) ?_ ?_
 ·simp[aP,hC,aX,E0,eZ]
 ·rintro i hi;by_cases aR:i<s.ai.length
  ·have hc:=h.ai i aR;simp(disch:=omega)[aR,xF];repeat refine awG ?_
   generalize hb:(eZ s.shift&&(s.ai.take i).all Li.sZ)=b;have e:(eZ s.shift&&(s.ai.take (i+1)).all Li.sZ)=(b&&(ix (gt s.ai i).low&&ix (gt s.ai i).high&&decide ((gm 300 (gt s.ai i).cost).2.1=0))):=by rw[mg _ aR,<-aB1,hb];rfl
   refine awI (r8 (gt s.ai i).low hc.low) ?_;simp;refine awI (r8 (gt s.ai i).high hc.high) ?_;simp;refine awI (o5 (gt s.ai i).cost hc.cost) ?_;simp[E0]
   repeat' (apply And.intro<;>intro _)
   all_goals
    refine⟨⟨by simp[hC],by omega,by omega⟩,i+1,by omega,by omega,?_⟩;rw[Rl];simp(disch:=omega)[aP,oY _ aR,aD, *]
  ·obtain rfl:i=s.ai.length:=by omega
   simp;refine aa.le (Le.iO 2 6 13 rfl rfl rfl rfl (by simp)) ?_;refine aa.bB (ι:=Nat) (λi=>⟨193,[(1,dr false),(2,.ptr 0 0 0),(4,.ptr 1 0 0),(6,.ptr 2 0 0),(9,dr (eZ s.shift&&s.ai.all Li.sZ&&(s.rows.take i).all Q9)),(18,iv i)],
     [some ⟨4,[fJ s],false⟩,some ⟨7,[.agg [.val (.bool false),.val (.bool false),.val (.slice none 0 0),.val (.bool false),.val (.slice none 0 0),.val (.slice none 0 0),.val (.slice none 0 0)]],false⟩,some ⟨7,[.agg (dr s.max::((qb (mb s.shift)).cells++[.view 5 0 s.ai.length,.view 6 0 i]))],false⟩,some ⟨4,[qb (mb s.shift)],false⟩,some ⟨2,[E0 s.shift],false⟩,some ⟨16,s.ai.map yI,false⟩,some ⟨13,(s.rows.take i).map AG,false⟩]⟩)
    (λi=>i<=s.rows.length) (λi=>s.rows.length - i) 0 (by omega) ?_ ?_
   ·simp[aP,hC,aX];done
   ·rintro i hi;by_cases aR:i<s.rows.length
    ·have hr:=h.rows i aR;have ag:=hr.ai;have ak:=hr.jD.n;simp(disch:=omega)[aR,wV];repeat refine awG ?_
     generalize hb:(eZ s.shift&&s.ai.all Li.sZ&&(s.rows.take i).all Q9)=b;refine awI (r8 (gt s.rows i).low hr.low) ?_;simp;refine awI (r8 (gt s.rows i).high hr.high) ?_;simp;have hz:=rC (gt s.rows i)
     repeat' (apply And.intro<;>intro _)
     all_goals
      refine aa.le (Le.iO 10 1 1 rfl rfl rfl rfl (by simp)) ?_;simp[aX];refine aa.le (Le.iO 10 2 4 rfl rfl rfl rfl (by simp)) ?_;refine aa.loop (ι:=Nat) (λj=>⟨193,[(1,dr false),(2,.ptr 0 0 0),(4,.ptr 1 0 0),(6,.ptr 2 0 0),(9,dr (b&&ix (gt s.rows i).low&&ix (gt s.rows i).high&&((gY (gt s.rows i)).take j).all λz=>eZ z.2)),(18,iv i),(19,.ptr 7 0 0),(24,.ptr 10 0 0),(25,iv j)],
       [some ⟨4,[fJ s],false⟩,some ⟨7,[.agg [.val (.bool false),.val (.bool false),.val (.slice none 0 0),.val (.bool false),.val (.slice none 0 0),.val (.slice none 0 0),.val (.slice none 0 0)]],false⟩,some ⟨7,[.agg (dr s.max::((qb (mb s.shift)).cells++[.view 5 0 s.ai.length,.view 6 0 i]))],false⟩,some ⟨4,[qb (mb s.shift)],false⟩,some ⟨2,[E0 s.shift],false⟩,some ⟨16,s.ai.map yI,false⟩,some ⟨13,(s.rows.take i).map AG,false⟩,
        some ⟨5,[lq (gt s.rows i)],false⟩,some ⟨5,[s8 (!ko (gt s.rows i).low) (F9 (gt s.rows i).low)],false⟩,some ⟨5,[s8 (!ko (gt s.rows i).high) (F9 (gt s.rows i).high)],false⟩,
        some ⟨13,[.agg (fN (gt s.rows i).name::.view 11 0 j::.view 12 0 j::((s8 (!ko (gt s.rows i).low) (F9 (gt s.rows i).low)).cells++(s8 (!ko (gt s.rows i).high) (F9 (gt s.rows i).high)).cells))],false⟩,some ⟨1,((gY (gt s.rows i)).take j).map (λz=>iv z.1),false⟩,some ⟨4,((gY (gt s.rows i)).take j).map (λz=>qb (mb z.2)),false⟩]⟩)
       (λj=>j<=(gY (gt s.rows i)).length) (λj=>(gY (gt s.rows i)).length - j) 0 (by omega) ?_ ?_
      ·simp[aP,aX, *]
      ·rintro j hj;by_cases ac:j<(gY (gt s.rows i)).length
       ·have h1:j<(gt s.rows i).ai.length:=by omega
        have h2:j<(gt s.rows i).jD.length:=by omega
        have h3:=hr.jD.s _ (iW h2);simp(disch:=omega)[ri,h1,h2];repeat refine awG ?_
        generalize ad:(b&&ix (gt s.rows i).low&&ix (gt s.rows i).high&&((gY (gt s.rows i)).take j).all λz=>eZ z.2)=b2;have e:(b&&ix (gt s.rows i).low&&ix (gt s.rows i).high&&((gY (gt s.rows i)).take (j+1)).all λz=>eZ z.2)=(b2&&decide ((gm 300 (gt (gt s.rows i).jD j)).2.1=0)):=by rw[mg _ ac,<-aB1,ad,DL ac];rfl
        refine awI (o5 (gt (gt s.rows i).jD j) h3) ?_;simp[E0]
        repeat' (apply And.intro<;>intro _)
        all_goals
         refine aa.awH (.qs [0,1,2,3,4,5,6]<|.l 7 []<|.l 8 [1000000]<|.qs [9]<|.l 10 [10,1000000]<|.nil) ?_;simp(disch:=omega)[h1,cf];repeat refine awG ?_
         rename_i q;refine⟨⟨by simp[hC],by omega⟩,⟨by simp[hC],by omega⟩,j+1,by omega,by omega,?_⟩;simp(disch:=omega)[aP,hC,oY _ ac,DL ac,e,aD,q]
       ·obtain rfl:j=(gY (gt s.rows i)).length:=by omega
        by_cases h1:(gY (gt s.rows i)).length<(gt s.rows i).ai.length;all_goals
         simp(disch:=omega)[h1,aD];repeat refine awG ?_
         repeat' (intro _)
         have e:(eZ s.shift&&s.ai.all Li.sZ&&(s.rows.take (i+1)).all Q9)=(b&&(ix (gt s.rows i).low&&ix (gt s.rows i).high&&(gY (gt s.rows i)).all λz=>eZ z.2)):=by rw[mg _ aR,<-aB1,hb];rfl
         refine⟨⟨by simp[hC],by omega⟩,i+1,by omega,by omega,?_⟩;refine(Le.uO 12 rfl (by simp)).trans ?_;simp[lZ,aX];refine(Le.uO 11 rfl (by simp)).trans ?_;simp[lZ,aX];rw[<-S7];refine Le.dE ?_;simp(disch:=omega)[aP,hC,oY _ aR,e,aB1]
    ·obtain rfl:i=s.rows.length:=by omega
     simp;refine⟨_,(Le.uO 6 rfl (by simp)).trans (Le.uO 5 rfl (by simp)),?_⟩;simp[lZ,aX];rw[<-NX];exact⟨fV _ _ rfl,rfl⟩
theorem PM(s:dS)(h:QN s):aE ay9 74 [fJ s] (.bM [tq s,.val (.bool (QK s))]):=by refine aj Tryz.func74 rfl (by simp) (λC hC=>?_);simp;refine awI (LU s h) ?_;simp
end Go.Proofs
set_option maxRecDepth 10000
namespace Go.Sx
open Go Go.Sv Go.Pl Go.Proofs Go.Tb Go.Ut Go.Mx Go.Li Go.Dt
def fA(p:aB)(n m N:Nat):SV:=.agg [.dG (bS p) 0,iv n,iv m,.val (.slice none 0 0),.val (.slice none 0 0),.view 4 0 N,.view 1 0 N,.view 2 0 N,.val (.slice none 0 0),.view 3 0 N,.val (.slice none 0 0)]
def UD(p:aB)(n m N:Nat):aC:=[some ⟨11,[fA p n m N],false⟩,some ⟨1,zi N,false⟩,some ⟨4,zr N,false⟩,some ⟨1,zi N,false⟩,some ⟨4,zr N,false⟩]
end Go.Sx
namespace Go.Proofs
open Go.Sv Go Go.Tb Go.Pl Go.Ut Go.Mx Go.Li Go.Dt Go.Sx
theorem V8(p:aB)(n m N:Nat)(hn:p.ai.length=n)(hm:p.rows.length=m)(hN:n+m=N)(am:N<=14){C:Ctx}(hC:C.fx=[]){Q:bf}(ae:∀c st,¬Q (.panic c) st)(hQ:aa ay9 C (bh 4 aF) ⟨217,[(0,.dG (bS p) 0),(3,.ptr 0 0 0),(4,iv N)],UD p n m N⟩ Q) :
  aa ay9 C aF ⟨217,[(0,.dG (bS p) 0)],[]⟩ Q:=by
 refine aa.cutAt 3 (λst=>st=⟨217,[(0,.dG (bS p) 0),(3,.ptr 0 0 0),(4,iv N)],[some ⟨11,[.agg [.dG (bS p) 0,iv n,iv m,.val (.slice none 0 0),.val (.slice none 0 0),.val (.slice none 0 0),.val (.slice none 0 0),.val (.slice none 0 0),.val (.slice none 0 0),.val (.slice none 0 0),.val (.slice none 0 0)]],false⟩]⟩) ?_ ?_
 ·simp only[aF,aB0,Option.getD_some,aN,aL];simp;refine aa.draw (.qs [0,1,2,3,4,5,6,7,8,9,10,11]<|.l 12 []<|.qs [13]<|.nil) (by kernel_rfl) (by kernel_rfl) (by simpa using ae) ?_;simp(disch:=omega)[bS,hn,hm];repeat refine awG ?_
  refine aa.draw (.qs [0,1,2,3,4,5,6,7,8,9]<|.nil) (by kernel_rfl) (by kernel_rfl) (by simpa using ae) ?_;have wr:IntKind.i64.wrap ((n:Int)+m)=(N:Int):=by simp(disch:=omega)[aD];omega
  simp(disch:=omega)[wr];repeat refine awG ?_
  exact⟨rfl,by simp[bY,Go.Sv.get],ao _,.inl rfl⟩
 ·rintro st rfl;have fl:=abX (p:=p) (n:=n) (m:=m) (N:=N) (C:=C) (R:=uI (λst'=>aa ay9 C (bh 4 aF) st' Q) Q) ⟨hC,λc st=>ae c st,am,?_⟩
  rotate_left 1
  ·show aa _ _ _ _ _;have eM:(frS p n m N 4 4 4 4).M=UD p n m N:=by simp[frS,fre,frc,sgb,UD,fA]
   exact aa.le (Le.dE (st:=frS p n m N 4 4 4 4) (st':=⟨217,[(0,.dG (bS p) 0),(3,.ptr 0 0 0),(4,iv N)],UD p n m N⟩) ⟨rfl,by simp[bY,Go.Sv.get,frS,frq,frv],by rw[eM];exact ao _,.inl rfl⟩) hQ
  simp only[aF,aB0,Option.getD_some,ah,ab]at fl ⊢;exact aa.El (aa.ad3 (ops:=aJ) CO (by kernel_rfl) RH (by rw[show frS0 p n m N=_ from rfl]at fl;exact fl))
end Go.Proofs

