/- A text of the prover's own. -/
import Derived.Test.YtnimjdcaajmfcaaGreatDoorUKb
set_option maxRecDepth 10000
namespace Go.Proofs
open Go.Sv Go Go.Tb Go.Pl Go.Ut Go.Li
theorem pNum_ok (s:ByteArray) (h:s.size≤1048576):PureF Tryz.prog 67 [.val (.string s)] (.tup [rsv (num s),.val (.bool (okNum s))]):=pNumber_ok s (by omega)
theorem pBound_ok (s:ByteArray) (h:s.size≤1048576):PureF Tryz.prog 118 [.val (.string s)] (.tup [boQ (boOf s),.val (.bool (okBo s))]):=by
 refine pure_enter Tryz.func118 rfl (by simp) (fun C hC=>?_)
 simp
 by_cases h0:isNo s=true
 ·have e:s=⟨#[]⟩:=of_decide_eq_true h0
  simp [okBo,boOf,h0,e,isNo,boQ_no]
 ·have h0':isNo s=false:=by simpa using h0
  have e:¬s=⟨#[]⟩:=of_decide_eq_false h0'
  simp [e]
  refine callS (pNum_ok s h) (by simp) ?_
  simp [okBo,boOf,h0',boQ_mk]
theorem numCl_ok (s:ByteArray) (h:s.size≤1048576) (b:Bool):EffC Tryz.prog 116 [.val (.string s),.ptr 0 0 0] [some ⟨1,[.val (.bool b)],false⟩] [] (fun T y=>T=[some ⟨1,[.val (.bool (b&&okNum s))],false⟩]∧y=rsv (num s)):=by
 refine eff_enter Tryz.func116 rfl (by simp) (fun C hC=>?_)
 simp
 refine callS (pNum_ok s h) (by simp) ?_
 cases b
 ·simp
  exact ⟨_,_,⟨rfl,rfl⟩,rfl,by simp,by simp,by simp⟩
 ·simp
  exact ⟨_,_,⟨rfl,rfl⟩,rfl,by simp,by simp,by simp⟩
theorem boCl_ok (s:ByteArray) (h:s.size≤1048576) (b:Bool):EffC Tryz.prog 117 [.val (.string s),.ptr 0 0 0] [some ⟨1,[.val (.bool b)],false⟩] [] (fun T y=>T=[some ⟨1,[.val (.bool (b&&okBo s))],false⟩]∧y=boQ (boOf s)):=by
 refine eff_enter Tryz.func117 rfl (by simp) (fun C hC=>?_)
 simp
 refine callS (pBound_ok s h) (by simp) ?_
 cases b
 ·simp
  exact ⟨_,_,⟨rfl,rfl⟩,rfl,by simp,by simp,by simp⟩
 ·simp
  exact ⟨_,_,⟨rfl,rfl⟩,rfl,by simp,by simp,by simp⟩
theorem pProblem_ok (s:SpecT) (h:SmS s):PureF Tryz.prog 75 [specT s] (.tup [.rop (probQ (probOf s)) 0,.val (.bool (okS s))]):=by
 have nc:=h.nc
 have nr:=h.nr
 refine pure_enterW Tryz.func75 rfl (by simp) (fun C hC=>?_)
 simp
 refine callT (numCl_ok s.shift h.shift true) [2] (by simp) (by simp) (by simp) (by simp) (by simp) ?_
 rintro T y ⟨rfl,rfl⟩
 simp
 repeat (refine And.intro (by omega) ?_)
 refine CodeJ.le (Le.nilCell 1 5 16 rfl rfl rfl rfl (by simp)) ?_
 refine CodeJ.loop (ι:=Nat) (fun i=>⟨121,[(1,.ptr 0 0 0),(4,.ptr 1 0 0),(5,.ptr 2 0 0),(6,.fnv 116 [] [.ptr 2 0 0]),(7,.fnv 117 [] [.ptr 2 0 0]),(28,.ro (s.cols.map colT)),(29,iv s.cols.length),(30,iv i)],
   [some ⟨4,[specT s],false⟩,some ⟨7,[.agg (bov s.max::((rsv (num s.shift)).cells++[.view 3 0 i,.val (.slice none 0 0)]))],false⟩,some ⟨1,[bov (okNum s.shift&&(s.cols.take i).all okC)],false⟩,some ⟨16,(s.cols.take i).map (fun c=>colQ (colOf c)),false⟩]⟩)
  (fun i=>i≤s.cols.length) (fun i=>s.cols.length - i) 0 (by omega) ?_ ?_
 ·simp [leS,hC]
 ·rintro i hi
  by_cases hlt:i<s.cols.length
  ·have hc:=h.cols i hlt
   simp (disch:=omega) [hlt,lget_colT,w64]
   repeat (refine And.intro (by omega) ?_)
   generalize hb:(okNum s.shift&&(s.cols.take i).all Li.okC)=b
   refine CodeJ.draw (.qs [0,1,2,3]<|.q 4 [2]<|.qs [5]<|.q 6 [2]<|.qs [7]<|.q 8 [2]<|.qs [9,10]<|.q 11 [2]<|.qs [13,14]<|.q 15 [2]<|.qs [17,18]<|.q 19 [2]<|.l 12 [2]<|.l 16 [2]<|.l 20 [2]<|.qs [21]<|.l 22 []<|.l 23 [1000000]<|.qs [24,25]<|.l 26 [1,1000000]<|.nil) (by kernel_rfl) (by kernel_rfl) (by simp) ?_
   simp
   repeat (refine And.intro (by omega) ?_)
   refine callT (boCl_ok (gt s.cols i).low hc.low b) [2] (by simp) (by simp) (by simp) (by simp) (by simp) ?_
   rintro T y ⟨rfl,rfl⟩
   simp
   repeat (refine And.intro (by omega) ?_)
   refine callT (boCl_ok (gt s.cols i).high hc.high (b&&okBo (gt s.cols i).low)) [2] (by simp) (by simp) (by simp) (by simp) (by simp) ?_
   rintro T y ⟨rfl,rfl⟩
   simp
   repeat (refine And.intro (by omega) ?_)
   refine callT (numCl_ok (gt s.cols i).cost hc.cost (b&&okBo (gt s.cols i).low&&okBo (gt s.cols i).high)) [2] (by simp) (by simp) (by simp) (by simp) (by simp) ?_
   rintro T y ⟨rfl,rfl⟩
   simp
   repeat (refine And.intro (by omega) ?_)
   rw [colQ_mk]
   exact ⟨⟨by simp [hC],by omega,by omega⟩,i+1,by omega,by omega,by simp (disch:=omega) [leS,hC,take1 _ hlt,all_take _ hlt,←hb,Li.okC,colOf,Bool.and_assoc,w64]⟩
  ·obtain rfl:i=s.cols.length:=by omega
   simp
   refine CodeJ.le (Le.nilCell 1 6 12 rfl rfl rfl rfl (by simp)) ?_
   refine CodeJ.loop (ι:=Nat) (fun i=>⟨121,[(1,.ptr 0 0 0),(4,.ptr 1 0 0),(5,.ptr 2 0 0),(6,.fnv 116 [] [.ptr 2 0 0]),(7,.fnv 117 [] [.ptr 2 0 0]),(62,.ro (s.rows.map rowT)),(63,iv s.rows.length),(64,iv i)],
     [some ⟨4,[specT s],false⟩,some ⟨7,[.agg (bov s.max::((rsv (num s.shift)).cells++[.view 3 0 s.cols.length,.view 4 0 i]))],false⟩,some ⟨1,[bov (okNum s.shift&&s.cols.all Li.okC&&(s.rows.take i).all Li.okR)],false⟩,some ⟨16,s.cols.map (fun c=>colQ (colOf c)),false⟩,some ⟨12,(s.rows.take i).map (fun r=>rowQ (rowOf r)),false⟩]⟩)
    (fun i=>i≤s.rows.length) (fun i=>s.rows.length - i) 0 (by omega) ?_ ?_
   ·simp [leS,hC]
   ·rintro i hi
    by_cases hlt:i<s.rows.length
    ·have hr:=h.rows i hlt
     have hr2:=hr.cols
     have hr3:=hr.nums.n
     simp (disch:=omega) [hlt,lget_rowT,w64]
     repeat (refine And.intro (by omega) ?_)
     generalize hb:(okNum s.shift&&s.cols.all Li.okC&&(s.rows.take i).all Li.okR)=b
     refine CodeJ.drawTo (.qs [0]<|.q 1 [2]<|.qs [2,3]<|.q 4 [2]<|.qs [6,7]<|.q 8 [2]<|.alt 5 [2] (.alt 9 [2] (.qs [10]<|.l 11 []<|.l 12 [6,1000000]<|.nil)<|.alt 11 [] (.l 9 [2]<|.qs [10]<|.l 12 [6,1000000]<|.nil)<|.stop)<|.alt 11 [] (.l 5 [2]<|.l 9 [2]<|.qs [10]<|.l 12 [6,1000000]<|.nil)<|.stop)
      ⟨121,[(1,.ptr 0 0 0),(4,.ptr 1 0 0),(5,.ptr 2 0 0),(6,.fnv 116 [] [.ptr 2 0 0]),(7,.fnv 117 [] [.ptr 2 0 0]),(11,.ptr 5 0 0),(12,.ptr 6 0 0),(62,.ro (s.rows.map rowT)),(63,iv s.rows.length),(64,iv i)],
      [some ⟨4,[specT s],false⟩,some ⟨7,[.agg (bov s.max::((rsv (num s.shift)).cells++[.view 3 0 s.cols.length,.view 4 0 i]))],false⟩,some ⟨1,[bov (b&&okBo (gt s.rows i).low&&okBo (gt s.rows i).high)],false⟩,some ⟨16,s.cols.map (fun c=>colQ (colOf c)),false⟩,some ⟨12,(s.rows.take i).map (fun r=>rowQ (rowOf r)),false⟩,
       some ⟨5,[rowT (gt s.rows i)],false⟩,some ⟨12,[.agg (strv (gt s.rows i).name::.val (.slice none 0 0)::((boQ (boOf (gt s.rows i).low)).cells++(boQ (boOf (gt s.rows i).high)).cells))],false⟩]⟩ (by kernel_rfl) (by kernel_rfl) ?_ ?_
     ·simp
      refine ⟨?_,?_⟩
      ·refine callT (boCl_ok (gt s.rows i).low hr.low b) [2] (by simp) (by simp) (by simp) (by simp) (by simp) ?_
       rintro T y ⟨rfl,rfl⟩
       simp
       repeat (refine And.intro (by omega) ?_)
       refine ⟨?_,?_⟩
       ·refine callT (boCl_ok (gt s.rows i).high hr.high (b&&okBo (gt s.rows i).low)) [2] (by simp) (by simp) (by simp) (by simp) (by simp) ?_
        rintro T y ⟨rfl,rfl⟩
        simp
        repeat (refine And.intro (by omega) ?_)
        simp [leS,hC]
       ·refine callT (boCl_ok (gt s.rows i).high hr.high (b&&okBo (gt s.rows i).low)) [2] (by simp) (by simp) (by simp) (by simp) (by simp) ?_
        rintro T y ⟨rfl,rfl⟩
        simp
        repeat (refine And.intro (by omega) ?_)
        simp [leS,hC]
      ·refine callT (boCl_ok (gt s.rows i).low hr.low b) [2] (by simp) (by simp) (by simp) (by simp) (by simp) ?_
       rintro T y ⟨rfl,rfl⟩
       simp
       repeat (refine And.intro (by omega) ?_)
       refine callT (boCl_ok (gt s.rows i).high hr.high (b&&okBo (gt s.rows i).low)) [2] (by simp) (by simp) (by simp) (by simp) (by simp) ?_
       rintro T y ⟨rfl,rfl⟩
       simp
       repeat (refine And.intro (by omega) ?_)
       simp [leS,hC]
     ·simp
      refine CodeJ.le (Le.nilCell 6 1 5 rfl rfl rfl rfl (by simp)) ?_
      have hz:=zipR_len (gt s.rows i)
      refine CodeJ.loop (ι:=Nat) (fun j=>⟨121,[(1,.ptr 0 0 0),(4,.ptr 1 0 0),(5,.ptr 2 0 0),(6,.fnv 116 [] [.ptr 2 0 0]),(7,.fnv 117 [] [.ptr 2 0 0]),(11,.ptr 5 0 0),(12,.ptr 6 0 0),(62,.ro (s.rows.map rowT)),(63,iv s.rows.length),(64,iv i),(85,iv (zipR (gt s.rows i)).length),(86,iv j)],
       [some ⟨4,[specT s],false⟩,some ⟨7,[.agg (bov s.max::((rsv (num s.shift)).cells++[.view 3 0 s.cols.length,.view 4 0 i]))],false⟩,some ⟨1,[bov (b&&okBo (gt s.rows i).low&&okBo (gt s.rows i).high&&((zipR (gt s.rows i)).take j).all fun z=>okNum z.2)],false⟩,some ⟨16,s.cols.map (fun c=>colQ (colOf c)),false⟩,some ⟨12,(s.rows.take i).map (fun r=>rowQ (rowOf r)),false⟩,
        some ⟨5,[rowT (gt s.rows i)],false⟩,some ⟨12,[.agg (strv (gt s.rows i).name::.view 7 0 j::((boQ (boOf (gt s.rows i).low)).cells++(boQ (boOf (gt s.rows i).high)).cells))],false⟩,some ⟨5,((zipR (gt s.rows i)).take j).map (fun z=>termQ (termOf z)),false⟩]⟩)
       (fun j=>j≤(zipR (gt s.rows i)).length) (fun j=>(zipR (gt s.rows i)).length - j) 0 (by omega) ?_ ?_
      ·have hz':((zipR (gt s.rows i)).length:Int)=min ((gt s.rows i).cols.length:Int) ((gt s.rows i).nums.length:Int):=by omega
       simp [leS,hC,tset,hz']
      ·rintro j hj
       by_cases hjl:j<(zipR (gt s.rows i)).length
       ·have h1:j<(gt s.rows i).cols.length:=by omega
        have h2:j<(gt s.rows i).nums.length:=by omega
        have h3:=hr.nums.s _ (gt_mem h2)
        simp (disch:=omega) [hjl,lget_iv,lget_str,h1,h2,w64]
        repeat (refine And.intro (by omega) ?_)
        generalize hb2:(b&&okBo (gt s.rows i).low&&okBo (gt s.rows i).high&&((zipR (gt s.rows i)).take j).all fun z=>okNum z.2)=b2
        refine CodeJ.draw (.q 0 []<|.q 1 [2]<|.qs [2]<|.q 3 [2]<|.qs [4,5]<|.q 6 [2]<|.qs [7,8]<|.q 9 [2]<|.qs [10,11]<|.q 12 [2]<|.l 13 [2]<|.qs [14]<|.l 15 []<|.l 16 [1000000]<|.qs [17]<|.l 18 [6,1000000]<|.nil) (by kernel_rfl) (by kernel_rfl) (by simp) ?_
        simp (disch:=omega) [h1,h2,lget_iv,lget_str]
        repeat (refine And.intro (by omega) ?_)
        refine callT (numCl_ok (gt (gt s.rows i).nums j) h3 b2) [2] (by simp) (by simp) (by simp) (by simp) (by simp) ?_
        rintro T y ⟨rfl,rfl⟩
        simp
        repeat (refine And.intro (by omega) ?_)
        rw [termQ_mk]
        exact ⟨⟨by simp [hC],by omega,by omega⟩,j+1,by omega,by omega,by simp (disch:=omega) [leS,hC,take1 _ hjl,all_take _ hjl,←hb2,termOf,gt_zipR hjl,Bool.and_assoc,w64]⟩
       ·obtain rfl:j=(zipR (gt s.rows i)).length:=by omega
        simp
        refine CodeJ.frz 7 rfl (by simp) ?_
        simp [frzS,tset]
        refine CodeJ.draw (.qs [0,1,2,3,4,5]<|.l 6 []<|.l 7 [1000000]<|.qs [8,9]<|.l 10 [1,1000000]<|.nil) (by kernel_rfl) (by kernel_rfl) (by simp) ?_
        simp
        rw [←rowQ_of]
        exact ⟨⟨by simp [hC],by omega,by omega⟩,i+1,by omega,by omega,by simp (disch:=omega) [leS,hC,take1 _ hlt,all_take _ hlt,←hb,okR,Bool.and_assoc,w64]⟩
    ·obtain rfl:i=s.rows.length:=by omega
     simp
     refine CodeJ.frz 4 rfl (by simp) ?_
     simp [frzS,tset]
     refine CodeJ.frz 3 rfl (by simp) ?_
     simp [frzS,tset]
     refine CodeJ.frz 1 rfl (by simp) ?_
     simp [frzS,tset]
     rw [←probQ_of]
     refine CodeJ.draw (.qs [0,1,2,3]<|.nil) (by kernel_rfl) (by kernel_rfl) (by simp) ?_
     simp [okS]
     refine ⟨_,Le.refl _ _,?_⟩
     simp
end Go.Proofs
namespace Go.Proofs
open Go.Sv Go Go.Tb Go.Pl Go.Ut Go.Li
theorem rFrom1_ok (s:SpecT) (h:SmS s):PureF Tryz.prog 115 [specT s,.val (.bool false)] (.tup [probX s,.val (.bool (okS s))]):=by
 have nc:=h.nc
 have nr:=h.nr
 refine pure_enterW Tryz.func115 rfl (by simp) (fun C hC=>?_)
 simp
 refine callS (number1_ok s.shift h.shift) (by simp) ?_
 simp [flV]
 refine CodeJ.le (Le.nilCell 2 5 16 rfl rfl rfl rfl (by simp)) ?_
 refine CodeJ.loop (ι:=Nat) (fun i=>⟨193,[(1,bov false),(2,.ptr 0 0 0),(4,.ptr 1 0 0),(6,.ptr 2 0 0),(9,bov (okNum s.shift&&(s.cols.take i).all Li.okC)),(10,iv i)],
   [some ⟨4,[specT s],false⟩,some ⟨7,[.agg [.val (.bool false),.val (.bool false),.val (.slice none 0 0),.val (.bool false),.val (.slice none 0 0),.val (.slice none 0 0),.val (.slice none 0 0)]],false⟩,some ⟨7,[.agg (bov s.max::((qb (numB s.shift)).cells++[.view 5 0 i,.val (.slice none 0 0)]))],false⟩,some ⟨4,[qb (numB s.shift)],false⟩,some ⟨2,[flV s.shift],false⟩,some ⟨16,(s.cols.take i).map colX,false⟩]⟩)
  (fun i=>i≤s.cols.length) (fun i=>s.cols.length - i) 0 (by omega) ?_ ?_
 ·simp [leS,hC,tset,flV,okNum]
 ·rintro i hi
  by_cases hlt:i<s.cols.length
  ·have hc:=h.cols i hlt
   simp (disch:=omega) [hlt,lget_colT,w64]
   repeat (refine And.intro (by omega) ?_)
   generalize hb:(okNum s.shift&&(s.cols.take i).all Li.okC)=b
   have e:(okNum s.shift&&(s.cols.take (i+1)).all Li.okC)=(b&&(okBo (gt s.cols i).low&&okBo (gt s.cols i).high&&decide ((qrd 300 (gt s.cols i).cost).2.1=0))):=by rw [all_take _ hlt,←Bool.and_assoc,hb];rfl
   refine callS (rBound_ok (gt s.cols i).low hc.low) (by simp) ?_
   simp
   refine callS (rBound_ok (gt s.cols i).high hc.high) (by simp) ?_
   simp
   refine callS (number1_ok (gt s.cols i).cost hc.cost) (by simp) ?_
   simp [flV]
   repeat' (apply And.intro<;>intro _)
   all_goals
    refine ⟨⟨by simp [hC],by omega,by omega⟩,i+1,by omega,by omega,?_⟩
    rw [colX_mk]
    simp (disch:=omega) [leS,hC,take1 _ hlt,e,w64, *]
  ·obtain rfl:i=s.cols.length:=by omega
   simp
   refine CodeJ.le (Le.nilCell 2 6 13 rfl rfl rfl rfl (by simp)) ?_
   refine CodeJ.loopL (ι:=Nat) (fun i=>⟨193,[(1,bov false),(2,.ptr 0 0 0),(4,.ptr 1 0 0),(6,.ptr 2 0 0),(9,bov (okNum s.shift&&s.cols.all Li.okC&&(s.rows.take i).all okR)),(18,iv i)],
     [some ⟨4,[specT s],false⟩,some ⟨7,[.agg [.val (.bool false),.val (.bool false),.val (.slice none 0 0),.val (.bool false),.val (.slice none 0 0),.val (.slice none 0 0),.val (.slice none 0 0)]],false⟩,some ⟨7,[.agg (bov s.max::((qb (numB s.shift)).cells++[.view 5 0 s.cols.length,.view 6 0 i]))],false⟩,some ⟨4,[qb (numB s.shift)],false⟩,some ⟨2,[flV s.shift],false⟩,some ⟨16,s.cols.map colX,false⟩,some ⟨13,(s.rows.take i).map rowX,false⟩]⟩)
    (fun i=>i≤s.rows.length) (fun i=>s.rows.length - i) 0 (by omega) ?_ ?_
   ·simp [leS,hC,tset]
    done
   ·rintro i hi
    by_cases hlt:i<s.rows.length
    ·have hr:=h.rows i hlt
     have hr2:=hr.cols
     have hr3:=hr.nums.n
     simp (disch:=omega) [hlt,lget_rowT,w64]
     repeat (refine And.intro (by omega) ?_)
     generalize hb:(okNum s.shift&&s.cols.all Li.okC&&(s.rows.take i).all okR)=b
     refine callS (rBound_ok (gt s.rows i).low hr.low) (by simp) ?_
     simp
     refine callS (rBound_ok (gt s.rows i).high hr.high) (by simp) ?_
     simp
     have hz:=zipR_len (gt s.rows i)
     repeat' (apply And.intro<;>intro _)
     all_goals
      refine CodeJ.le (Le.nilCell 10 1 1 rfl rfl rfl rfl (by simp)) ?_
      simp [tset]
      refine CodeJ.le (Le.nilCell 10 2 4 rfl rfl rfl rfl (by simp)) ?_
      refine CodeJ.loop (ι:=Nat) (fun j=>⟨193,[(1,bov false),(2,.ptr 0 0 0),(4,.ptr 1 0 0),(6,.ptr 2 0 0),(9,bov (b&&okBo (gt s.rows i).low&&okBo (gt s.rows i).high&&((zipR (gt s.rows i)).take j).all fun z=>okNum z.2)),(18,iv i),(19,.ptr 7 0 0),(24,.ptr 10 0 0),(25,iv j)],
       [some ⟨4,[specT s],false⟩,some ⟨7,[.agg [.val (.bool false),.val (.bool false),.val (.slice none 0 0),.val (.bool false),.val (.slice none 0 0),.val (.slice none 0 0),.val (.slice none 0 0)]],false⟩,some ⟨7,[.agg (bov s.max::((qb (numB s.shift)).cells++[.view 5 0 s.cols.length,.view 6 0 i]))],false⟩,some ⟨4,[qb (numB s.shift)],false⟩,some ⟨2,[flV s.shift],false⟩,some ⟨16,s.cols.map colX,false⟩,some ⟨13,(s.rows.take i).map rowX,false⟩,
        some ⟨5,[rowT (gt s.rows i)],false⟩,some ⟨5,[boX (!isNo (gt s.rows i).low) (boN (gt s.rows i).low)],false⟩,some ⟨5,[boX (!isNo (gt s.rows i).high) (boN (gt s.rows i).high)],false⟩,
        some ⟨13,[.agg (strv (gt s.rows i).name::.view 11 0 j::.view 12 0 j::((boX (!isNo (gt s.rows i).low) (boN (gt s.rows i).low)).cells++(boX (!isNo (gt s.rows i).high) (boN (gt s.rows i).high)).cells))],false⟩,some ⟨1,((zipR (gt s.rows i)).take j).map (fun z=>iv z.1),false⟩,some ⟨4,((zipR (gt s.rows i)).take j).map (fun z=>qb (numB z.2)),false⟩]⟩)
       (fun j=>j≤(zipR (gt s.rows i)).length) (fun j=>(zipR (gt s.rows i)).length - j) 0 (by omega) ?_ ?_
      ·simp [leS,hC,tset, *]
      ·rintro j hj
       by_cases hjl:j<(zipR (gt s.rows i)).length
       ·have h1:j<(gt s.rows i).cols.length:=by omega
        have h2:j<(gt s.rows i).nums.length:=by omega
        have h3:=hr.nums.s _ (gt_mem h2)
        simp (disch:=omega) [hjl,lget_iv,lget_str,h1,h2,w64]
        repeat (refine And.intro (by omega) ?_)
        generalize hb2:(b&&okBo (gt s.rows i).low&&okBo (gt s.rows i).high&&((zipR (gt s.rows i)).take j).all fun z=>okNum z.2)=b2
        have e:(b&&okBo (gt s.rows i).low&&okBo (gt s.rows i).high&&((zipR (gt s.rows i)).take (j+1)).all fun z=>okNum z.2)=(b2&&decide ((qrd 300 (gt (gt s.rows i).nums j)).2.1=0)):=by rw [all_take _ hjl,←Bool.and_assoc,hb2,gt_zipR hjl];rfl
        refine callS (number1_ok (gt (gt s.rows i).nums j) h3) (by simp) ?_
        simp [flV]
        repeat' (apply And.intro<;>intro _)
        all_goals
         refine CodeJ.draw (.qs [0,1,2,3,4,5,6]<|.l 7 []<|.l 8 [1000000]<|.qs [9]<|.l 10 [10,1000000]<|.nil) (by kernel_rfl) (by kernel_rfl) (by simp) ?_
         simp (disch:=omega) [h1,h2,lget_iv]
         repeat (refine And.intro (by omega) ?_)
         rename_i q
         refine ⟨⟨by simp [hC],by omega⟩,⟨by simp [hC],by omega⟩,j+1,by omega,by omega,?_⟩
         simp (disch:=omega) [leS,hC,take1 _ hjl,gt_zipR hjl,e,w64,q]
       ·obtain rfl:j=(zipR (gt s.rows i)).length:=by omega
        by_cases h1:(zipR (gt s.rows i)).length<(gt s.rows i).cols.length
        all_goals
         simp (disch:=omega) [h1,w64]
         repeat (refine And.intro (by omega) ?_)
         repeat' (intro _)
         have e:(okNum s.shift&&s.cols.all Li.okC&&(s.rows.take (i+1)).all okR)=(b&&(okBo (gt s.rows i).low&&okBo (gt s.rows i).high&&(zipR (gt s.rows i)).all fun z=>okNum z.2)):=by rw [all_take _ hlt,←Bool.and_assoc,hb];rfl
         refine ⟨⟨by simp [hC],by omega⟩,i+1,by omega,by omega,?_⟩
         refine (Le.frz 12 rfl (by simp)).trans ?_
         simp [frzS,tset]
         refine (Le.frz 11 rfl (by simp)).trans ?_
         simp [frzS,tset]
         rw [←rowX_mk]
         refine Le.syn ?_
         simp (disch:=omega) [leS,hC,take1 _ hlt,e,w64,Bool.and_assoc]
    ·obtain rfl:i=s.rows.length:=by omega
     simp
     refine ⟨_,(Le.frz 6 rfl (by simp)).trans (Le.frz 5 rfl (by simp)),?_⟩
     simp [frzS,tset]
     rw [←probX_mk]
     exact ⟨Sub_self _ _ rfl,rfl⟩
theorem rFrom_ok (s:SpecT) (h:SmS s):PureF Tryz.prog 74 [specT s] (.tup [probX s,.val (.bool (okS s))]):=by
 refine pure_enter Tryz.func74 rfl (by simp) (fun C hC=>?_)
 simp
 refine callS (rFrom1_ok s h) (by simp) ?_
 simp
end Go.Proofs

