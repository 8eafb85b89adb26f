/- A text of the prover's own. -/
import Derived.Test.YtmghjkkjaolpgaaGreatDoorWKb
open Bool renaming and_assoc→anP
set_option maxRecDepth 10000
namespace Go.Proofs
open Go.Sv Go Go.Tb Go.Pl Go.Ut Go.Li
theorem CX(s:ByteArray)(h:s.size≤1048576):aF Tryz.prog 43 [.val (.string s)] (.bO [bs (num s),.val (.bool (eu s))]):=Cw s (by omega)
theorem Fh(s:ByteArray)(h:s.size≤1048576):aF Tryz.prog 58 [.val (.string s)] (.bO [cL (kn s),.val (.bool (fP s))]):=by
 refine aj Tryz.func58 rfl (by simp) (fun C hC=>?_);simp;by_cases h0:js s=true
 ·have e:s=⟨#[]⟩:=of_decide_eq_true h0;simp[fP,kn,h0,e,js,L0]
 ·have h0':js s=false:=by simpa using h0
  have e:¬s=⟨#[]⟩:=of_decide_eq_false h0';simp[e];refine akK (CX s h) ?_;simp[fP,kn,h0',Nz]
theorem u7(s:ByteArray)(h:s.size≤1048576)(b:Bool):ji Tryz.prog 56 [.val (.string s),.ptr 0 0 0] [some ⟨1,[.val (.bool b)],false⟩] [] (fun T y=>T=[some ⟨1,[.val (.bool (b&&eu s))],false⟩]∧y=bs (num s)):=by
 refine rP Tryz.func56 rfl (by simp) (fun C hC=>?_);simp;refine akK (CX s h) ?_;cases b
 ·simp;exact⟨_,_,⟨rfl,rfl⟩,rfl,by simp,by simp,by simp⟩
 ·simp;exact⟨_,_,⟨rfl,rfl⟩,rfl,by simp,by simp,by simp⟩
theorem mM(s:ByteArray)(h:s.size≤1048576)(b:Bool):ji Tryz.prog 57 [.val (.string s),.ptr 0 0 0] [some ⟨1,[.val (.bool b)],false⟩] [] (fun T y=>T=[some ⟨1,[.val (.bool (b&&fP s))],false⟩]∧y=cL (kn s)):=by
 refine rP Tryz.func57 rfl (by simp) (fun C hC=>?_);simp;refine akK (Fh s h) ?_;cases b
 ·simp;exact⟨_,_,⟨rfl,rfl⟩,rfl,by simp,by simp,by simp⟩
 ·simp;exact⟨_,_,⟨rfl,rfl⟩,rfl,by simp,by simp,by simp⟩
theorem zY(s:cR)(h:Ja s):aF Tryz.prog 27 [cI s] (.bO [.bK (cJ (cV s)) 0,.val (.bool (I1 s))]):=by
 have nc:=h.nc;have nr:=h.nr;refine gk Tryz.func27 rfl (by simp) (fun C hC=>?_);simp;refine cN (u7 s.shift h.shift true) [2] (by simp) (by simp) (by simp) (by simp) (by simp) ?_;rintro T y ⟨rfl,rfl⟩;simp;repeat refine akI ?_
 refine aa.le (Le.bB 1 5 16 rfl rfl rfl rfl (by simp)) ?_;refine aa.loop (ι:=Nat) (fun i=>⟨121,[(1,.ptr 0 0 0),(4,.ptr 1 0 0),(5,.ptr 2 0 0),(6,.gG 56 [] [.ptr 2 0 0]),(7,.gG 57 [] [.ptr 2 0 0]),(28,.ro (s.ae.map fY)),(29,iv s.ae.length),(30,iv i)],
   [some ⟨4,[cI s],false⟩,some ⟨7,[.agg (bZ s.max::((bs (num s.shift)).cells++[.view 3 0 i,.val (.slice none 0 0)]))],false⟩,some ⟨1,[bZ (eu s.shift&&(s.ae.take i).all oU)],false⟩,some ⟨16,(s.ae.take i).map (fun c=>bW (ob c)),false⟩]⟩)
  (fun i=>i≤s.ae.length) (fun i=>s.ae.length - i) 0 (by omega) ?_ ?_
 ·simp[aw,hC]
 ·rintro i hi;by_cases az:i<s.ae.length
  ·have hc:=h.ae i az;simp(disch:=omega)[az,o4,aN];repeat refine akI ?_
   generalize hb:(eu s.shift&&(s.ae.take i).all Li.oU)=b;refine aa.akJ (.qs [0,1,2,3]<|.q 4 [2]<|.qs [5]<|.q 6 [2]<|.qs [7]<|.q 8 [2]<|.qs [9,10]<|.q 11 [2]<|.qs [13,14]<|.q 15 [2]<|.qs [17,18]<|.q 19 [2]<|.l 12 [2]<|.l 16 [2]<|.l 20 [2]<|.qs [21]<|.l 22 []<|.l 23 [1000000]<|.qs [24,25]<|.l 26 [1,1000000]<|.nil) ?_;simp;repeat refine akI ?_
   refine cN (mM (gt s.ae i).low hc.low b) [2] (by simp) (by simp) (by simp) (by simp) (by simp) ?_;rintro T y ⟨rfl,rfl⟩;simp;repeat refine akI ?_
   refine cN (mM (gt s.ae i).high hc.high (b&&fP (gt s.ae i).low)) [2] (by simp) (by simp) (by simp) (by simp) (by simp) ?_;rintro T y ⟨rfl,rfl⟩;simp;repeat refine akI ?_
   refine cN (u7 (gt s.ae i).cost hc.cost (b&&fP (gt s.ae i).low&&fP (gt s.ae i).high)) [2] (by simp) (by simp) (by simp) (by simp) (by simp) ?_;rintro T y ⟨rfl,rfl⟩;simp;repeat refine akI ?_
   rw[JH];exact⟨⟨by simp[hC],by omega,by omega⟩,i+1,by omega,by omega,by simp(disch:=omega)[aw,hC,m5 _ az,kC _ az,←hb,Li.oU,ob,anP,aN]⟩
  ·obtain rfl:i=s.ae.length:=by omega
   simp;refine aa.le (Le.bB 1 6 12 rfl rfl rfl rfl (by simp)) ?_;refine aa.loop (ι:=Nat) (fun i=>⟨121,[(1,.ptr 0 0 0),(4,.ptr 1 0 0),(5,.ptr 2 0 0),(6,.gG 56 [] [.ptr 2 0 0]),(7,.gG 57 [] [.ptr 2 0 0]),(62,.ro (s.rows.map fv)),(63,iv s.rows.length),(64,iv i)],
     [some ⟨4,[cI s],false⟩,some ⟨7,[.agg (bZ s.max::((bs (num s.shift)).cells++[.view 3 0 s.ae.length,.view 4 0 i]))],false⟩,some ⟨1,[bZ (eu s.shift&&s.ae.all Li.oU&&(s.rows.take i).all Li.JR)],false⟩,some ⟨16,s.ae.map (fun c=>bW (ob c)),false⟩,some ⟨12,(s.rows.take i).map (fun r=>bE (rowOf r)),false⟩]⟩)
    (fun i=>i≤s.rows.length) (fun i=>s.rows.length - i) 0 (by omega) ?_ ?_
   ·simp[aw,hC]
   ·rintro i hi;by_cases az:i<s.rows.length
    ·have hr:=h.rows i az;have hr2:=hr.ae;have hr3:=hr.eY.n;simp(disch:=omega)[az,oF,aN];repeat refine akI ?_
     generalize hb:(eu s.shift&&s.ae.all Li.oU&&(s.rows.take i).all Li.JR)=b;refine aa.MP (.qs [0]<|.q 1 [2]<|.qs [2,3]<|.q 4 [2]<|.qs [6,7]<|.q 8 [2]<|.alt 5 [2] (.alt 9 [2] (.qs [10]<|.l 11 []<|.l 12 [6,1000000]<|.nil)<|.alt 11 [] (.l 9 [2]<|.qs [10]<|.l 12 [6,1000000]<|.nil)<|.stop)<|.alt 11 [] (.l 5 [2]<|.l 9 [2]<|.qs [10]<|.l 12 [6,1000000]<|.nil)<|.stop)
      ⟨121,[(1,.ptr 0 0 0),(4,.ptr 1 0 0),(5,.ptr 2 0 0),(6,.gG 56 [] [.ptr 2 0 0]),(7,.gG 57 [] [.ptr 2 0 0]),(11,.ptr 5 0 0),(12,.ptr 6 0 0),(62,.ro (s.rows.map fv)),(63,iv s.rows.length),(64,iv i)],
      [some ⟨4,[cI s],false⟩,some ⟨7,[.agg (bZ s.max::((bs (num s.shift)).cells++[.view 3 0 s.ae.length,.view 4 0 i]))],false⟩,some ⟨1,[bZ (b&&fP (gt s.rows i).low&&fP (gt s.rows i).high)],false⟩,some ⟨16,s.ae.map (fun c=>bW (ob c)),false⟩,some ⟨12,(s.rows.take i).map (fun r=>bE (rowOf r)),false⟩,
       some ⟨5,[fv (gt s.rows i)],false⟩,some ⟨12,[.agg (dt (gt s.rows i).name::.val (.slice none 0 0)::((cL (kn (gt s.rows i).low)).cells++(cL (kn (gt s.rows i).high)).cells))],false⟩]⟩ (by kernel_rfl) (by kernel_rfl) ?_ ?_
     ·simp;refine⟨?_,?_⟩
      ·refine cN (mM (gt s.rows i).low hr.low b) [2] (by simp) (by simp) (by simp) (by simp) (by simp) ?_;rintro T y ⟨rfl,rfl⟩;simp;repeat refine akI ?_
       refine⟨?_,?_⟩
       ·refine cN (mM (gt s.rows i).high hr.high (b&&fP (gt s.rows i).low)) [2] (by simp) (by simp) (by simp) (by simp) (by simp) ?_;rintro T y ⟨rfl,rfl⟩;simp;repeat refine akI ?_
        simp[aw,hC]
       ·refine cN (mM (gt s.rows i).high hr.high (b&&fP (gt s.rows i).low)) [2] (by simp) (by simp) (by simp) (by simp) (by simp) ?_;rintro T y ⟨rfl,rfl⟩;simp;repeat refine akI ?_
        simp[aw,hC]
      ·refine cN (mM (gt s.rows i).low hr.low b) [2] (by simp) (by simp) (by simp) (by simp) (by simp) ?_;rintro T y ⟨rfl,rfl⟩;simp;repeat refine akI ?_
       refine cN (mM (gt s.rows i).high hr.high (b&&fP (gt s.rows i).low)) [2] (by simp) (by simp) (by simp) (by simp) (by simp) ?_;rintro T y ⟨rfl,rfl⟩;simp;repeat refine akI ?_
       simp[aw,hC]
     ·simp;refine aa.le (Le.bB 6 1 5 rfl rfl rfl rfl (by simp)) ?_;have hz:=nC (gt s.rows i);refine aa.loop (ι:=Nat) (fun j=>⟨121,[(1,.ptr 0 0 0),(4,.ptr 1 0 0),(5,.ptr 2 0 0),(6,.gG 56 [] [.ptr 2 0 0]),(7,.gG 57 [] [.ptr 2 0 0]),(11,.ptr 5 0 0),(12,.ptr 6 0 0),(62,.ro (s.rows.map fv)),(63,iv s.rows.length),(64,iv i),(85,iv (fF (gt s.rows i)).length),(86,iv j)],
       [some ⟨4,[cI s],false⟩,some ⟨7,[.agg (bZ s.max::((bs (num s.shift)).cells++[.view 3 0 s.ae.length,.view 4 0 i]))],false⟩,some ⟨1,[bZ (b&&fP (gt s.rows i).low&&fP (gt s.rows i).high&&((fF (gt s.rows i)).take j).all fun z=>eu z.2)],false⟩,some ⟨16,s.ae.map (fun c=>bW (ob c)),false⟩,some ⟨12,(s.rows.take i).map (fun r=>bE (rowOf r)),false⟩,
        some ⟨5,[fv (gt s.rows i)],false⟩,some ⟨12,[.agg (dt (gt s.rows i).name::.view 7 0 j::((cL (kn (gt s.rows i).low)).cells++(cL (kn (gt s.rows i).high)).cells))],false⟩,some ⟨5,((fF (gt s.rows i)).take j).map (fun z=>aW (pT z)),false⟩]⟩)
       (fun j=>j≤(fF (gt s.rows i)).length) (fun j=>(fF (gt s.rows i)).length - j) 0 (by omega) ?_ ?_
      ·have hz':((fF (gt s.rows i)).length:Int)=min ((gt s.rows i).ae.length:Int) ((gt s.rows i).eY.length:Int):=by omega
       simp[aw,hC,aK,hz']
      ·rintro j hj;by_cases hjl:j<(fF (gt s.rows i)).length
       ·have h1:j<(gt s.rows i).ae.length:=by omega
        have h2:j<(gt s.rows i).eY.length:=by omega
        have h3:=hr.eY.s _ (jz h2);simp(disch:=omega)[hjl,k8,lZ,h1,h2,aN];repeat refine akI ?_
        generalize hb2:(b&&fP (gt s.rows i).low&&fP (gt s.rows i).high&&((fF (gt s.rows i)).take j).all fun z=>eu z.2)=b2;refine aa.akJ (.q 0 []<|.q 1 [2]<|.qs [2]<|.q 3 [2]<|.qs [4,5]<|.q 6 [2]<|.qs [7,8]<|.q 9 [2]<|.qs [10,11]<|.q 12 [2]<|.l 13 [2]<|.qs [14]<|.l 15 []<|.l 16 [1000000]<|.qs [17]<|.l 18 [6,1000000]<|.nil) ?_;simp(disch:=omega)[h1,h2,k8,lZ];repeat refine akI ?_
        refine cN (u7 (gt (gt s.rows i).eY j) h3 b2) [2] (by simp) (by simp) (by simp) (by simp) (by simp) ?_;rintro T y ⟨rfl,rfl⟩;simp;repeat refine akI ?_
        rw[zI];exact⟨⟨by simp[hC],by omega,by omega⟩,j+1,by omega,by omega,by simp(disch:=omega)[aw,hC,m5 _ hjl,kC _ hjl,←hb2,pT,yu hjl,anP,aN]⟩
       ·obtain rfl:j=(fF (gt s.rows i)).length:=by omega
        simp;refine aa.je 7 rfl (by simp) ?_;simp[dH,aK];refine aa.akJ (.qs [0,1,2,3,4,5]<|.l 6 []<|.l 7 [1000000]<|.qs [8,9]<|.l 10 [1,1000000]<|.nil) ?_;simp;rw[←Ka];exact⟨⟨by simp[hC],by omega,by omega⟩,i+1,by omega,by omega,by simp(disch:=omega)[aw,hC,m5 _ az,kC _ az,←hb,JR,anP,aN]⟩
    ·obtain rfl:i=s.rows.length:=by omega
     simp;refine aa.je 4 rfl (by simp) ?_;simp[dH,aK];refine aa.je 3 rfl (by simp) ?_;simp[dH,aK];refine aa.je 1 rfl (by simp) ?_;simp[dH,aK];rw[←Hz];refine aa.akJ (.qs [0,1,2,3]<|.nil) ?_;simp[I1];refine⟨_,Le.refl _ _,?_⟩;simp
end Go.Proofs
namespace Go.Proofs
open Go.Sv Go Go.Tb Go.Pl Go.Ut Go.Li
theorem EE(s:cR)(h:Ja s):aF Tryz.prog 51 [cI s,.val (.bool false)] (.bO [lQ s,.val (.bool (I1 s))]):=by
 have nc:=h.nc;have nr:=h.nr;refine gk Tryz.func51 rfl (by simp) (fun C hC=>?_);simp;refine akK (mW s.shift h.shift) ?_;simp[zG];refine aa.le (Le.bB 2 5 16 rfl rfl rfl rfl (by simp)) ?_;refine aa.loop (ι:=Nat) (fun i=>⟨193,[(1,bZ false),(2,.ptr 0 0 0),(4,.ptr 1 0 0),(6,.ptr 2 0 0),(9,bZ (eu s.shift&&(s.ae.take i).all Li.oU)),(10,iv i)],
   [some ⟨4,[cI s],false⟩,some ⟨7,[.agg [.val (.bool false),.val (.bool false),.val (.slice none 0 0),.val (.bool false),.val (.slice none 0 0),.val (.slice none 0 0),.val (.slice none 0 0)]],false⟩,some ⟨7,[.agg (bZ s.max::((qb (ko s.shift)).cells++[.view 5 0 i,.val (.slice none 0 0)]))],false⟩,some ⟨4,[qb (ko s.shift)],false⟩,some ⟨2,[zG s.shift],false⟩,some ⟨16,(s.ae.take i).map tw,false⟩]⟩)
  (fun i=>i≤s.ae.length) (fun i=>s.ae.length - i) 0 (by omega) ?_ ?_
 ·simp[aw,hC,aK,zG,eu]
 ·rintro i hi;by_cases az:i<s.ae.length
  ·have hc:=h.ae i az;simp(disch:=omega)[az,o4,aN];repeat refine akI ?_
   generalize hb:(eu s.shift&&(s.ae.take i).all Li.oU)=b;have e:(eu s.shift&&(s.ae.take (i+1)).all Li.oU)=(b&&(fP (gt s.ae i).low&&fP (gt s.ae i).high&&decide ((fE 300 (gt s.ae i).cost).2.1=0))):=by rw[kC _ az,←anP,hb];rfl
   refine akK (oR (gt s.ae i).low hc.low) ?_;simp;refine akK (oR (gt s.ae i).high hc.high) ?_;simp;refine akK (mW (gt s.ae i).cost hc.cost) ?_;simp[zG]
   repeat' (apply And.intro<;>intro _)
   all_goals
    refine⟨⟨by simp[hC],by omega,by omega⟩,i+1,by omega,by omega,?_⟩;rw[Ji];simp(disch:=omega)[aw,hC,m5 _ az,e,aN, *]
  ·obtain rfl:i=s.ae.length:=by omega
   simp;refine aa.le (Le.bB 2 6 13 rfl rfl rfl rfl (by simp)) ?_;refine aa.bG (ι:=Nat) (fun i=>⟨193,[(1,bZ false),(2,.ptr 0 0 0),(4,.ptr 1 0 0),(6,.ptr 2 0 0),(9,bZ (eu s.shift&&s.ae.all Li.oU&&(s.rows.take i).all JR)),(18,iv i)],
     [some ⟨4,[cI s],false⟩,some ⟨7,[.agg [.val (.bool false),.val (.bool false),.val (.slice none 0 0),.val (.bool false),.val (.slice none 0 0),.val (.slice none 0 0),.val (.slice none 0 0)]],false⟩,some ⟨7,[.agg (bZ s.max::((qb (ko s.shift)).cells++[.view 5 0 s.ae.length,.view 6 0 i]))],false⟩,some ⟨4,[qb (ko s.shift)],false⟩,some ⟨2,[zG s.shift],false⟩,some ⟨16,s.ae.map tw,false⟩,some ⟨13,(s.rows.take i).map vz,false⟩]⟩)
    (fun i=>i≤s.rows.length) (fun i=>s.rows.length - i) 0 (by omega) ?_ ?_
   ·simp[aw,hC,aK];done
   ·rintro i hi;by_cases az:i<s.rows.length
    ·have hr:=h.rows i az;have hr2:=hr.ae;have hr3:=hr.eY.n;simp(disch:=omega)[az,oF,aN];repeat refine akI ?_
     generalize hb:(eu s.shift&&s.ae.all Li.oU&&(s.rows.take i).all JR)=b;refine akK (oR (gt s.rows i).low hr.low) ?_;simp;refine akK (oR (gt s.rows i).high hr.high) ?_;simp;have hz:=nC (gt s.rows i)
     repeat' (apply And.intro<;>intro _)
     all_goals
      refine aa.le (Le.bB 10 1 1 rfl rfl rfl rfl (by simp)) ?_;simp[aK];refine aa.le (Le.bB 10 2 4 rfl rfl rfl rfl (by simp)) ?_;refine aa.loop (ι:=Nat) (fun j=>⟨193,[(1,bZ false),(2,.ptr 0 0 0),(4,.ptr 1 0 0),(6,.ptr 2 0 0),(9,bZ (b&&fP (gt s.rows i).low&&fP (gt s.rows i).high&&((fF (gt s.rows i)).take j).all fun z=>eu z.2)),(18,iv i),(19,.ptr 7 0 0),(24,.ptr 10 0 0),(25,iv j)],
       [some ⟨4,[cI s],false⟩,some ⟨7,[.agg [.val (.bool false),.val (.bool false),.val (.slice none 0 0),.val (.bool false),.val (.slice none 0 0),.val (.slice none 0 0),.val (.slice none 0 0)]],false⟩,some ⟨7,[.agg (bZ s.max::((qb (ko s.shift)).cells++[.view 5 0 s.ae.length,.view 6 0 i]))],false⟩,some ⟨4,[qb (ko s.shift)],false⟩,some ⟨2,[zG s.shift],false⟩,some ⟨16,s.ae.map tw,false⟩,some ⟨13,(s.rows.take i).map vz,false⟩,
        some ⟨5,[fv (gt s.rows i)],false⟩,some ⟨5,[pE (!js (gt s.rows i).low) (Bg (gt s.rows i).low)],false⟩,some ⟨5,[pE (!js (gt s.rows i).high) (Bg (gt s.rows i).high)],false⟩,
        some ⟨13,[.agg (dt (gt s.rows i).name::.view 11 0 j::.view 12 0 j::((pE (!js (gt s.rows i).low) (Bg (gt s.rows i).low)).cells++(pE (!js (gt s.rows i).high) (Bg (gt s.rows i).high)).cells))],false⟩,some ⟨1,((fF (gt s.rows i)).take j).map (fun z=>iv z.1),false⟩,some ⟨4,((fF (gt s.rows i)).take j).map (fun z=>qb (ko z.2)),false⟩]⟩)
       (fun j=>j≤(fF (gt s.rows i)).length) (fun j=>(fF (gt s.rows i)).length - j) 0 (by omega) ?_ ?_
      ·simp[aw,hC,aK, *]
      ·rintro j hj;by_cases hjl:j<(fF (gt s.rows i)).length
       ·have h1:j<(gt s.rows i).ae.length:=by omega
        have h2:j<(gt s.rows i).eY.length:=by omega
        have h3:=hr.eY.s _ (jz h2);simp(disch:=omega)[hjl,k8,lZ,h1,h2,aN];repeat refine akI ?_
        generalize hb2:(b&&fP (gt s.rows i).low&&fP (gt s.rows i).high&&((fF (gt s.rows i)).take j).all fun z=>eu z.2)=b2;have e:(b&&fP (gt s.rows i).low&&fP (gt s.rows i).high&&((fF (gt s.rows i)).take (j+1)).all fun z=>eu z.2)=(b2&&decide ((fE 300 (gt (gt s.rows i).eY j)).2.1=0)):=by rw[kC _ hjl,←anP,hb2,yu hjl];rfl
        refine akK (mW (gt (gt s.rows i).eY j) h3) ?_;simp[zG]
        repeat' (apply And.intro<;>intro _)
        all_goals
         refine aa.akJ (.qs [0,1,2,3,4,5,6]<|.l 7 []<|.l 8 [1000000]<|.qs [9]<|.l 10 [10,1000000]<|.nil) ?_;simp(disch:=omega)[h1,h2,k8];repeat refine akI ?_
         rename_i q;refine⟨⟨by simp[hC],by omega⟩,⟨by simp[hC],by omega⟩,j+1,by omega,by omega,?_⟩;simp(disch:=omega)[aw,hC,m5 _ hjl,yu hjl,e,aN,q]
       ·obtain rfl:j=(fF (gt s.rows i)).length:=by omega
        by_cases h1:(fF (gt s.rows i)).length<(gt s.rows i).ae.length;all_goals
         simp(disch:=omega)[h1,aN];repeat refine akI ?_
         repeat' (intro _)
         have e:(eu s.shift&&s.ae.all Li.oU&&(s.rows.take (i+1)).all JR)=(b&&(fP (gt s.rows i).low&&fP (gt s.rows i).high&&(fF (gt s.rows i)).all fun z=>eu z.2)):=by rw[kC _ az,←anP,hb];rfl
         refine⟨⟨by simp[hC],by omega⟩,i+1,by omega,by omega,?_⟩;refine(Le.je 12 rfl (by simp)).trans ?_;simp[dH,aK];refine(Le.je 11 rfl (by simp)).trans ?_;simp[dH,aK];rw[←Jq];refine Le.bA ?_;simp(disch:=omega)[aw,hC,m5 _ az,e,aN,anP]
    ·obtain rfl:i=s.rows.length:=by omega
     simp;refine⟨_,(Le.je 6 rfl (by simp)).trans (Le.je 5 rfl (by simp)),?_⟩;simp[dH,aK];rw[←GM];exact⟨cW _ _ rfl,rfl⟩
theorem Ib(s:cR)(h:Ja s):aF Tryz.prog 26 [cI s] (.bO [lQ s,.val (.bool (I1 s))]):=by
 refine aj Tryz.func26 rfl (by simp) (fun C hC=>?_);simp;refine akK (EE s h) ?_;simp
end Go.Proofs

