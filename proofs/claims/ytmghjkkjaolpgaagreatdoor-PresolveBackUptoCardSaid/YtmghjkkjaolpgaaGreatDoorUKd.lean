/- A text of the prover's own. -/
import Derived.Test.YtmghjkkjaolpgaaGreatDoorUKb
open Bool renaming and_assoc→aoT
set_option maxRecDepth 10000
namespace Go.Proofs
open Go.Sv Go Go.Tb Go.Pl Go.Ut Go.Li
theorem Ee(s:ByteArray)(h:s.size≤1048576):aI Tryz.prog 43 [.val (.string s)] (.bG [aY (num s),.val (.bool (eC s))]):=uO s (by omega)
theorem Fq(s:ByteArray)(h:s.size≤1048576):aI Tryz.prog 58 [.val (.string s)] (.bG [cL (jM s),.val (.bool (fW s))]):=by
 refine aj Tryz.func58 rfl (by simp) (fun C hC=>?_);simp;by_cases h0:iX s=true
 ·have e:s=⟨#[]⟩:=of_decide_eq_true h0;simp[fW,jM,h0,e,iX,Pb]
 ·have h0':iX s=false:=by simpa using h0
  have e:¬s=⟨#[]⟩:=of_decide_eq_false h0';simp[e];refine alT (Ee s h) ?_;simp[fW,jM,h0',Ou]
theorem vC(s:ByteArray)(h:s.size≤1048576)(b:Bool):mw Tryz.prog 56 [.val (.string s),.ptr 0 0 0] [some ⟨1,[.val (.bool b)],false⟩] [] (fun T y=>T=[some ⟨1,[.val (.bool (b&&eC s))],false⟩]∧y=aY (num s)):=by
 refine sR Tryz.func56 rfl (by simp) (fun C hC=>?_);simp;refine alT (Ee s h) ?_;cases b
 ·simp;exact⟨_,_,⟨rfl,rfl⟩,rfl,by simp,by simp,by simp⟩
 ·simp;exact⟨_,_,⟨rfl,rfl⟩,rfl,by simp,by simp,by simp⟩
theorem mL(s:ByteArray)(h:s.size≤1048576)(b:Bool):mw Tryz.prog 57 [.val (.string s),.ptr 0 0 0] [some ⟨1,[.val (.bool b)],false⟩] [] (fun T y=>T=[some ⟨1,[.val (.bool (b&&fW s))],false⟩]∧y=cL (jM s)):=by
 refine sR Tryz.func57 rfl (by simp) (fun C hC=>?_);simp;refine alT (Fq s h) ?_;cases b
 ·simp;exact⟨_,_,⟨rfl,rfl⟩,rfl,by simp,by simp,by simp⟩
 ·simp;exact⟨_,_,⟨rfl,rfl⟩,rfl,by simp,by simp,by simp⟩
theorem Bu(s:cR)(h:JT s):aI Tryz.prog 27 [dv s] (.bG [.bU (cz (ch s)) 0,.val (.bool (JK s))]):=by
 have nc:=h.nc;have nr:=h.nr;refine il Tryz.func27 rfl (by simp) (fun C hC=>?_);simp;refine fy (vC s.shift h.shift true) [2] (by simp) (by simp) (by simp) (by simp) (by simp) ?_;rintro T y ⟨rfl,rfl⟩;simp;repeat refine alR ?_
 refine ae.le (Le.cJ 1 5 16 rfl rfl rfl rfl (by simp)) ?_;refine ae.loop (ι:=Nat) (fun i=>⟨121,[(1,.ptr 0 0 0),(4,.ptr 1 0 0),(5,.ptr 2 0 0),(6,.gA 56 [] [.ptr 2 0 0]),(7,.gA 57 [] [.ptr 2 0 0]),(28,.ro (s.aa.map iT)),(29,iv s.aa.length),(30,iv i)],
   [some ⟨4,[dv s],false⟩,some ⟨7,[.agg (cU s.max::((aY (num s.shift)).cells++[.view 3 0 i,.val (.slice none 0 0)]))],false⟩,some ⟨1,[cU (eC s.shift&&(s.aa.take i).all oq)],false⟩,some ⟨16,(s.aa.take i).map (fun c=>bS (nL c)),false⟩]⟩)
  (fun i=>i≤s.aa.length) (fun i=>s.aa.length - i) 0 (by omega) ?_ ?_
 ·simp[ar,hC]
 ·rintro i hi;by_cases aF:i<s.aa.length
  ·have hc:=h.aa i aF;simp(disch:=omega)[aF,oE,aP];repeat refine alR ?_
   generalize hb:(eC s.shift&&(s.aa.take i).all Li.oq)=b;refine ae.alS (.qs [0,1,2,3]<|.q 4 [2]<|.qs [5]<|.q 6 [2]<|.qs [7]<|.q 8 [2]<|.qs [9,10]<|.q 11 [2]<|.qs [13,14]<|.q 15 [2]<|.qs [17,18]<|.q 19 [2]<|.l 12 [2]<|.l 16 [2]<|.l 20 [2]<|.qs [21]<|.l 22 []<|.l 23 [1000000]<|.qs [24,25]<|.l 26 [1,1000000]<|.nil) ?_;simp;repeat refine alR ?_
   refine fy (mL (gt s.aa i).low hc.low b) [2] (by simp) (by simp) (by simp) (by simp) (by simp) ?_;rintro T y ⟨rfl,rfl⟩;simp;repeat refine alR ?_
   refine fy (mL (gt s.aa i).high hc.high (b&&fW (gt s.aa i).low)) [2] (by simp) (by simp) (by simp) (by simp) (by simp) ?_;rintro T y ⟨rfl,rfl⟩;simp;repeat refine alR ?_
   refine fy (vC (gt s.aa i).cost hc.cost (b&&fW (gt s.aa i).low&&fW (gt s.aa i).high)) [2] (by simp) (by simp) (by simp) (by simp) (by simp) ?_;rintro T y ⟨rfl,rfl⟩;simp;repeat refine alR ?_
   rw[Lm];exact⟨⟨by simp[hC],by omega,by omega⟩,i+1,by omega,by omega,by simp(disch:=omega)[ar,hC,mQ _ aF,ku _ aF,←hb,Li.oq,nL,aoT,aP]⟩
  ·obtain rfl:i=s.aa.length:=by omega
   simp;refine ae.le (Le.cJ 1 6 12 rfl rfl rfl rfl (by simp)) ?_;refine ae.loop (ι:=Nat) (fun i=>⟨121,[(1,.ptr 0 0 0),(4,.ptr 1 0 0),(5,.ptr 2 0 0),(6,.gA 56 [] [.ptr 2 0 0]),(7,.gA 57 [] [.ptr 2 0 0]),(62,.ro (s.rows.map ib)),(63,iv s.rows.length),(64,iv i)],
     [some ⟨4,[dv s],false⟩,some ⟨7,[.agg (cU s.max::((aY (num s.shift)).cells++[.view 3 0 s.aa.length,.view 4 0 i]))],false⟩,some ⟨1,[cU (eC s.shift&&s.aa.all Li.oq&&(s.rows.take i).all Li.JY)],false⟩,some ⟨16,s.aa.map (fun c=>bS (nL c)),false⟩,some ⟨12,(s.rows.take i).map (fun r=>bE (rowOf r)),false⟩]⟩)
    (fun i=>i≤s.rows.length) (fun i=>s.rows.length - i) 0 (by omega) ?_ ?_
   ·simp[ar,hC]
   ·rintro i hi;by_cases aF:i<s.rows.length
    ·have hr:=h.rows i aF;have hr2:=hr.aa;have hr3:=hr.cN.n;simp(disch:=omega)[aF,oc,aP];repeat refine alR ?_
     generalize hb:(eC s.shift&&s.aa.all Li.oq&&(s.rows.take i).all Li.JY)=b;refine ae.OG (.qs [0]<|.q 1 [2]<|.qs [2,3]<|.q 4 [2]<|.qs [6,7]<|.q 8 [2]<|.alt 5 [2] (.alt 9 [2] (.qs [10]<|.l 11 []<|.l 12 [6,1000000]<|.nil)<|.alt 11 [] (.l 9 [2]<|.qs [10]<|.l 12 [6,1000000]<|.nil)<|.stop)<|.alt 11 [] (.l 5 [2]<|.l 9 [2]<|.qs [10]<|.l 12 [6,1000000]<|.nil)<|.stop)
      ⟨121,[(1,.ptr 0 0 0),(4,.ptr 1 0 0),(5,.ptr 2 0 0),(6,.gA 56 [] [.ptr 2 0 0]),(7,.gA 57 [] [.ptr 2 0 0]),(11,.ptr 5 0 0),(12,.ptr 6 0 0),(62,.ro (s.rows.map ib)),(63,iv s.rows.length),(64,iv i)],
      [some ⟨4,[dv s],false⟩,some ⟨7,[.agg (cU s.max::((aY (num s.shift)).cells++[.view 3 0 s.aa.length,.view 4 0 i]))],false⟩,some ⟨1,[cU (b&&fW (gt s.rows i).low&&fW (gt s.rows i).high)],false⟩,some ⟨16,s.aa.map (fun c=>bS (nL c)),false⟩,some ⟨12,(s.rows.take i).map (fun r=>bE (rowOf r)),false⟩,
       some ⟨5,[ib (gt s.rows i)],false⟩,some ⟨12,[.agg (cZ (gt s.rows i).name::.val (.slice none 0 0)::((cL (jM (gt s.rows i).low)).cells++(cL (jM (gt s.rows i).high)).cells))],false⟩]⟩ (by kernel_rfl) (by kernel_rfl) ?_ ?_
     ·simp;refine⟨?_,?_⟩
      ·refine fy (mL (gt s.rows i).low hr.low b) [2] (by simp) (by simp) (by simp) (by simp) (by simp) ?_;rintro T y ⟨rfl,rfl⟩;simp;repeat refine alR ?_
       refine⟨?_,?_⟩
       ·refine fy (mL (gt s.rows i).high hr.high (b&&fW (gt s.rows i).low)) [2] (by simp) (by simp) (by simp) (by simp) (by simp) ?_;rintro T y ⟨rfl,rfl⟩;simp;repeat refine alR ?_
        simp[ar,hC]
       ·refine fy (mL (gt s.rows i).high hr.high (b&&fW (gt s.rows i).low)) [2] (by simp) (by simp) (by simp) (by simp) (by simp) ?_;rintro T y ⟨rfl,rfl⟩;simp;repeat refine alR ?_
        simp[ar,hC]
      ·refine fy (mL (gt s.rows i).low hr.low b) [2] (by simp) (by simp) (by simp) (by simp) (by simp) ?_;rintro T y ⟨rfl,rfl⟩;simp;repeat refine alR ?_
       refine fy (mL (gt s.rows i).high hr.high (b&&fW (gt s.rows i).low)) [2] (by simp) (by simp) (by simp) (by simp) (by simp) ?_;rintro T y ⟨rfl,rfl⟩;simp;repeat refine alR ?_
       simp[ar,hC]
     ·simp;refine ae.le (Le.cJ 6 1 5 rfl rfl rfl rfl (by simp)) ?_;have hz:=nQ (gt s.rows i);refine ae.loop (ι:=Nat) (fun j=>⟨121,[(1,.ptr 0 0 0),(4,.ptr 1 0 0),(5,.ptr 2 0 0),(6,.gA 56 [] [.ptr 2 0 0]),(7,.gA 57 [] [.ptr 2 0 0]),(11,.ptr 5 0 0),(12,.ptr 6 0 0),(62,.ro (s.rows.map ib)),(63,iv s.rows.length),(64,iv i),(85,iv (fM (gt s.rows i)).length),(86,iv j)],
       [some ⟨4,[dv s],false⟩,some ⟨7,[.agg (cU s.max::((aY (num s.shift)).cells++[.view 3 0 s.aa.length,.view 4 0 i]))],false⟩,some ⟨1,[cU (b&&fW (gt s.rows i).low&&fW (gt s.rows i).high&&((fM (gt s.rows i)).take j).all fun z=>eC z.2)],false⟩,some ⟨16,s.aa.map (fun c=>bS (nL c)),false⟩,some ⟨12,(s.rows.take i).map (fun r=>bE (rowOf r)),false⟩,
        some ⟨5,[ib (gt s.rows i)],false⟩,some ⟨12,[.agg (cZ (gt s.rows i).name::.view 7 0 j::((cL (jM (gt s.rows i).low)).cells++(cL (jM (gt s.rows i).high)).cells))],false⟩,some ⟨5,((fM (gt s.rows i)).take j).map (fun z=>aT (pP z)),false⟩]⟩)
       (fun j=>j≤(fM (gt s.rows i)).length) (fun j=>(fM (gt s.rows i)).length - j) 0 (by omega) ?_ ?_
      ·have hz':((fM (gt s.rows i)).length:Int)=min ((gt s.rows i).aa.length:Int) ((gt s.rows i).cN.length:Int):=by omega
       simp[ar,hC,aN,hz']
      ·rintro j hj;by_cases hjl:j<(fM (gt s.rows i)).length
       ·have h1:j<(gt s.rows i).aa.length:=by omega
        have h2:j<(gt s.rows i).cN.length:=by omega
        have h3:=hr.cN.s _ (dr h2);simp(disch:=omega)[hjl,oA,iE,h1,h2,aP];repeat refine alR ?_
        generalize hb2:(b&&fW (gt s.rows i).low&&fW (gt s.rows i).high&&((fM (gt s.rows i)).take j).all fun z=>eC z.2)=b2;refine ae.alS (.q 0 []<|.q 1 [2]<|.qs [2]<|.q 3 [2]<|.qs [4,5]<|.q 6 [2]<|.qs [7,8]<|.q 9 [2]<|.qs [10,11]<|.q 12 [2]<|.l 13 [2]<|.qs [14]<|.l 15 []<|.l 16 [1000000]<|.qs [17]<|.l 18 [6,1000000]<|.nil) ?_;simp(disch:=omega)[h1,h2,oA,iE];repeat refine alR ?_
        refine fy (vC (gt (gt s.rows i).cN j) h3 b2) [2] (by simp) (by simp) (by simp) (by simp) (by simp) ?_;rintro T y ⟨rfl,rfl⟩;simp;repeat refine alR ?_
        rw[AY];exact⟨⟨by simp[hC],by omega,by omega⟩,j+1,by omega,by omega,by simp(disch:=omega)[ar,hC,mQ _ hjl,ku _ hjl,←hb2,pP,zX hjl,aoT,aP]⟩
       ·obtain rfl:j=(fM (gt s.rows i)).length:=by omega
        simp;refine ae.kE 7 rfl (by simp) ?_;simp[fg,aN];refine ae.alS (.qs [0,1,2,3,4,5]<|.l 6 []<|.l 7 [1000000]<|.qs [8,9]<|.l 10 [1,1000000]<|.nil) ?_;simp;rw[←Ln];exact⟨⟨by simp[hC],by omega,by omega⟩,i+1,by omega,by omega,by simp(disch:=omega)[ar,hC,mQ _ aF,ku _ aF,←hb,JY,aoT,aP]⟩
    ·obtain rfl:i=s.rows.length:=by omega
     simp;refine ae.kE 4 rfl (by simp) ?_;simp[fg,aN];refine ae.kE 3 rfl (by simp) ?_;simp[fg,aN];refine ae.kE 1 rfl (by simp) ?_;simp[fg,aN];rw[←HG];refine ae.alS (.qs [0,1,2,3]<|.nil) ?_;simp[JK];refine⟨_,Le.refl _ _,?_⟩;simp
end Go.Proofs
namespace Go.Proofs
open Go.Sv Go Go.Tb Go.Pl Go.Ut Go.Li
theorem Fm(s:cR)(h:JT s):aI Tryz.prog 51 [dv s,.val (.bool false)] (.bG [nC s,.val (.bool (JK s))]):=by
 have nc:=h.nc;have nr:=h.nr;refine il Tryz.func51 rfl (by simp) (fun C hC=>?_);simp;refine alT (l6 s.shift h.shift) ?_;simp[Ag];refine ae.le (Le.cJ 2 5 16 rfl rfl rfl rfl (by simp)) ?_;refine ae.loop (ι:=Nat) (fun i=>⟨193,[(1,cU false),(2,.ptr 0 0 0),(4,.ptr 1 0 0),(6,.ptr 2 0 0),(9,cU (eC s.shift&&(s.aa.take i).all Li.oq)),(10,iv i)],
   [some ⟨4,[dv s],false⟩,some ⟨7,[.agg [.val (.bool false),.val (.bool false),.val (.slice none 0 0),.val (.bool false),.val (.slice none 0 0),.val (.slice none 0 0),.val (.slice none 0 0)]],false⟩,some ⟨7,[.agg (cU s.max::((qb (kA s.shift)).cells++[.view 5 0 i,.val (.slice none 0 0)]))],false⟩,some ⟨4,[qb (kA s.shift)],false⟩,some ⟨2,[Ag s.shift],false⟩,some ⟨16,(s.aa.take i).map tS,false⟩]⟩)
  (fun i=>i≤s.aa.length) (fun i=>s.aa.length - i) 0 (by omega) ?_ ?_
 ·simp[ar,hC,aN,Ag,eC]
 ·rintro i hi;by_cases aF:i<s.aa.length
  ·have hc:=h.aa i aF;simp(disch:=omega)[aF,oE,aP];repeat refine alR ?_
   generalize hb:(eC s.shift&&(s.aa.take i).all Li.oq)=b;have e:(eC s.shift&&(s.aa.take (i+1)).all Li.oq)=(b&&(fW (gt s.aa i).low&&fW (gt s.aa i).high&&decide ((eH 300 (gt s.aa i).cost).2.1=0))):=by rw[ku _ aF,←aoT,hb];rfl
   refine alT (oS (gt s.aa i).low hc.low) ?_;simp;refine alT (oS (gt s.aa i).high hc.high) ?_;simp;refine alT (l6 (gt s.aa i).cost hc.cost) ?_;simp[Ag]
   repeat' (apply And.intro<;>intro _)
   all_goals
    refine⟨⟨by simp[hC],by omega,by omega⟩,i+1,by omega,by omega,?_⟩;rw[J5];simp(disch:=omega)[ar,hC,mQ _ aF,e,aP, *]
  ·obtain rfl:i=s.aa.length:=by omega
   simp;refine ae.le (Le.cJ 2 6 13 rfl rfl rfl rfl (by simp)) ?_;refine ae.cq (ι:=Nat) (fun i=>⟨193,[(1,cU false),(2,.ptr 0 0 0),(4,.ptr 1 0 0),(6,.ptr 2 0 0),(9,cU (eC s.shift&&s.aa.all Li.oq&&(s.rows.take i).all JY)),(18,iv i)],
     [some ⟨4,[dv s],false⟩,some ⟨7,[.agg [.val (.bool false),.val (.bool false),.val (.slice none 0 0),.val (.bool false),.val (.slice none 0 0),.val (.slice none 0 0),.val (.slice none 0 0)]],false⟩,some ⟨7,[.agg (cU s.max::((qb (kA s.shift)).cells++[.view 5 0 s.aa.length,.view 6 0 i]))],false⟩,some ⟨4,[qb (kA s.shift)],false⟩,some ⟨2,[Ag s.shift],false⟩,some ⟨16,s.aa.map tS,false⟩,some ⟨13,(s.rows.take i).map vt,false⟩]⟩)
    (fun i=>i≤s.rows.length) (fun i=>s.rows.length - i) 0 (by omega) ?_ ?_
   ·simp[ar,hC,aN];done
   ·rintro i hi;by_cases aF:i<s.rows.length
    ·have hr:=h.rows i aF;have hr2:=hr.aa;have hr3:=hr.cN.n;simp(disch:=omega)[aF,oc,aP];repeat refine alR ?_
     generalize hb:(eC s.shift&&s.aa.all Li.oq&&(s.rows.take i).all JY)=b;refine alT (oS (gt s.rows i).low hr.low) ?_;simp;refine alT (oS (gt s.rows i).high hr.high) ?_;simp;have hz:=nQ (gt s.rows i)
     repeat' (apply And.intro<;>intro _)
     all_goals
      refine ae.le (Le.cJ 10 1 1 rfl rfl rfl rfl (by simp)) ?_;simp[aN];refine ae.le (Le.cJ 10 2 4 rfl rfl rfl rfl (by simp)) ?_;refine ae.loop (ι:=Nat) (fun j=>⟨193,[(1,cU false),(2,.ptr 0 0 0),(4,.ptr 1 0 0),(6,.ptr 2 0 0),(9,cU (b&&fW (gt s.rows i).low&&fW (gt s.rows i).high&&((fM (gt s.rows i)).take j).all fun z=>eC z.2)),(18,iv i),(19,.ptr 7 0 0),(24,.ptr 10 0 0),(25,iv j)],
       [some ⟨4,[dv s],false⟩,some ⟨7,[.agg [.val (.bool false),.val (.bool false),.val (.slice none 0 0),.val (.bool false),.val (.slice none 0 0),.val (.slice none 0 0),.val (.slice none 0 0)]],false⟩,some ⟨7,[.agg (cU s.max::((qb (kA s.shift)).cells++[.view 5 0 s.aa.length,.view 6 0 i]))],false⟩,some ⟨4,[qb (kA s.shift)],false⟩,some ⟨2,[Ag s.shift],false⟩,some ⟨16,s.aa.map tS,false⟩,some ⟨13,(s.rows.take i).map vt,false⟩,
        some ⟨5,[ib (gt s.rows i)],false⟩,some ⟨5,[pg (!iX (gt s.rows i).low) (Aw (gt s.rows i).low)],false⟩,some ⟨5,[pg (!iX (gt s.rows i).high) (Aw (gt s.rows i).high)],false⟩,
        some ⟨13,[.agg (cZ (gt s.rows i).name::.view 11 0 j::.view 12 0 j::((pg (!iX (gt s.rows i).low) (Aw (gt s.rows i).low)).cells++(pg (!iX (gt s.rows i).high) (Aw (gt s.rows i).high)).cells))],false⟩,some ⟨1,((fM (gt s.rows i)).take j).map (fun z=>iv z.1),false⟩,some ⟨4,((fM (gt s.rows i)).take j).map (fun z=>qb (kA z.2)),false⟩]⟩)
       (fun j=>j≤(fM (gt s.rows i)).length) (fun j=>(fM (gt s.rows i)).length - j) 0 (by omega) ?_ ?_
      ·simp[ar,hC,aN, *]
      ·rintro j hj;by_cases hjl:j<(fM (gt s.rows i)).length
       ·have h1:j<(gt s.rows i).aa.length:=by omega
        have h2:j<(gt s.rows i).cN.length:=by omega
        have h3:=hr.cN.s _ (dr h2);simp(disch:=omega)[hjl,oA,iE,h1,h2,aP];repeat refine alR ?_
        generalize hb2:(b&&fW (gt s.rows i).low&&fW (gt s.rows i).high&&((fM (gt s.rows i)).take j).all fun z=>eC z.2)=b2;have e:(b&&fW (gt s.rows i).low&&fW (gt s.rows i).high&&((fM (gt s.rows i)).take (j+1)).all fun z=>eC z.2)=(b2&&decide ((eH 300 (gt (gt s.rows i).cN j)).2.1=0)):=by rw[ku _ hjl,←aoT,hb2,zX hjl];rfl
        refine alT (l6 (gt (gt s.rows i).cN j) h3) ?_;simp[Ag]
        repeat' (apply And.intro<;>intro _)
        all_goals
         refine ae.alS (.qs [0,1,2,3,4,5,6]<|.l 7 []<|.l 8 [1000000]<|.qs [9]<|.l 10 [10,1000000]<|.nil) ?_;simp(disch:=omega)[h1,h2,oA];repeat refine alR ?_
         rename_i q;refine⟨⟨by simp[hC],by omega⟩,⟨by simp[hC],by omega⟩,j+1,by omega,by omega,?_⟩;simp(disch:=omega)[ar,hC,mQ _ hjl,zX hjl,e,aP,q]
       ·obtain rfl:j=(fM (gt s.rows i)).length:=by omega
        by_cases h1:(fM (gt s.rows i)).length<(gt s.rows i).aa.length;all_goals
         simp(disch:=omega)[h1,aP];repeat refine alR ?_
         repeat' (intro _)
         have e:(eC s.shift&&s.aa.all Li.oq&&(s.rows.take (i+1)).all JY)=(b&&(fW (gt s.rows i).low&&fW (gt s.rows i).high&&(fM (gt s.rows i)).all fun z=>eC z.2)):=by rw[ku _ aF,←aoT,hb];rfl
         refine⟨⟨by simp[hC],by omega⟩,i+1,by omega,by omega,?_⟩;refine(Le.kE 12 rfl (by simp)).trans ?_;simp[fg,aN];refine(Le.kE 11 rfl (by simp)).trans ?_;simp[fg,aN];rw[←KO];refine Le.ct ?_;simp(disch:=omega)[ar,hC,mQ _ aF,e,aP,aoT]
    ·obtain rfl:i=s.rows.length:=by omega
     simp;refine⟨_,(Le.kE 6 rfl (by simp)).trans (Le.kE 5 rfl (by simp)),?_⟩;simp[fg,aN];rw[←HY];exact⟨eh _ _ rfl,rfl⟩
theorem HB(s:cR)(h:JT s):aI Tryz.prog 26 [dv s] (.bG [nC s,.val (.bool (JK s))]):=by
 refine aj Tryz.func26 rfl (by simp) (fun C hC=>?_);simp;refine alT (Fm s h) ?_;simp
end Go.Proofs

