/- A text of the prover's own. -/
import Derived.Test.YtnimjdcaajmfcaaGreatDoorUKb
set_option maxRecDepth 10000
namespace Go.Li
open Go Go.Sv Go.Pl Go.Proofs Go.Tb Go.Ut
/-! names -/
def e0:ByteArray:=⟨#[]⟩
def badN (l:List ByteArray):Bool:=decide (¬l.Nodup)||l.any fun x=>decide (x=e0)
theorem any_e0 {l:List ByteArray}:(l.any fun x=>decide (x=e0))=true↔e0∈l:=by simp
theorem not_mem_take {l:List ByteArray} {i:Nat} {x:ByteArray} (hi:i≤l.length):x∉l.take i↔∀k,k<i→x≠gt l k:=by
 constructor
 ·intro h k hk e
  refine h ?_
  rw [e,←gt_get (show k<l.length by omega)]
  exact List.mem_take_iff_getElem.2 ⟨k,by omega,rfl⟩
 ·intro h hx
  obtain ⟨k,hk,e⟩:=List.mem_take_iff_getElem.1 hx
  have hk':k<l.length:=by omega
  rw [gt_get hk'] at e
  exact h k (by omega) e.symm
theorem nodup_take {l:List ByteArray} {i:Nat} (hi:i<l.length):(l.take (i+1)).Nodup↔(l.take i).Nodup∧gt l i∉l.take i:=by
 rw [take_gt hi,List.nodup_append]
 simp only [List.nodup_cons,List.not_mem_nil,not_false_eq_true,List.nodup_nil,and_self,List.mem_cons,or_false,forall_eq,true_and]
 constructor
 ·rintro ⟨h1,h2⟩;exact ⟨h1,fun h=>h2 _ h rfl⟩
 ·rintro ⟨h1,h2⟩;exact ⟨h1,fun a ha e=>h2 (e ▸ ha)⟩
theorem mem_take1 {l:List ByteArray} {i:Nat} (hi:i<l.length) {x:ByteArray}:x∈l.take (i+1)↔x∈l.take i∨x=gt l i:=by
 rw [take_gt hi];simp
theorem badN_no {l:List ByteArray} (h:l.Nodup) (h':e0∉l):badN l=false:=by
 have:(l.any fun x=>decide (x=e0))=false:=Bool.eq_false_iff.2 fun e=>h' (any_e0.1 e)
 unfold badN;rw [this];simp [h]
theorem badN_dup {l:List ByteArray} {i k:Nat} (hi:i<l.length) (hk:k<i) (h:gt l i=gt l k):badN l=true:=by
 have:¬l.Nodup:=fun hn=>by
  have h1:=(List.take_sublist (i+1) l).nodup hn
  exact ((not_mem_take (by omega)).1 ((nodup_take hi).1 h1).2) k hk h
 simp [badN,this]
theorem badN_e {l:List ByteArray} {i:Nat} (hi:i<l.length) (h:gt l i=e0):badN l=true:=by
 have:e0∈l:=by rw [←h];exact gt_mem hi
 unfold badN;rw [any_e0.2 this];simp
/-! how often names stand in a list -/
def cAdd (s:ByteArray):List (ByteArray × Nat)→List (ByteArray × Nat)
 | []=>[(s,1)]
 | (t,n)::m=>if s=t then (t,n+1)::m else (t,n)::cAdd s m
def cGet (s:ByteArray):List (ByteArray × Nat)→Nat
 | []=>0
 | (t,n)::m=>if s=t then n else cGet s m
def cIdx (s:ByteArray):List (ByteArray × Nat)→Option Nat
 | []=>none
 | (t,_)::m=>if s=t then some 0 else (cIdx s m).map (·+1)
def entV (e:ByteArray × Nat):SV:=.tup [.val (.string e.1),.val (.int .i64 e.2)]
@[simp] theorem entV_lt (k:Nat) (e:ByteArray × Nat):(entV e).lt k=true:=rfl
theorem kfind_ent (s:ByteArray):∀(m:List (ByteArray × Nat)) (i:Nat),kfind (.string s) (m.map entV) i=some ((cIdx s m).map fun j=>(i+j,.val (.int .i64 (cGet s m))))
 | [],i=>rfl
 | (t,n)::m,i=>by
  simp only [List.map_cons,entV,kfind_cons,keq_str,kgo]
  by_cases h:s=t
  ·simp [h,cIdx,cGet]
  ·simp only [h,decide_false,cIdx,if_false,cGet]
   have:=kfind_ent s m (i+1)
   simp only [this,Option.map_map]
   congr 2
   funext j
   simp only [Function.comp]
   congr 1
   omega
theorem cAdd_none {s:ByteArray}:∀{m:List (ByteArray × Nat)},cIdx s m=none→cAdd s m=m++[(s,1)]∧cGet s m=0
 | [],_=>⟨rfl,rfl⟩
 | (t,n)::m,h=>by
  by_cases e:s=t
  ·simp [cIdx,e] at h
  ·simp only [cIdx,e,if_false,Option.map_eq_none_iff] at h
   obtain ⟨h1,h2⟩:=cAdd_none h
   simp [cAdd,cGet,e,h1,h2]
theorem cAdd_some {s:ByteArray}:∀{m:List (ByteArray × Nat)} {j:Nat},cIdx s m=some j→cAdd s m=m.set j (s,cGet s m+1)∧j<m.length
 | [],j,h=>by simp [cIdx] at h
 | (t,n)::m,j,h=>by
  by_cases e:s=t
  ·simp only [cIdx,e,if_true,Option.some.injEq] at h
   subst h;simp [cAdd,cGet,e]
  ·simp only [cIdx,e,if_false,Option.map_eq_some_iff] at h
   obtain ⟨j',h',rfl⟩:=h
   obtain ⟨h1,h2⟩:=cAdd_some h'
   simp [cAdd,cGet,e,h1,h2]
def cm (l:List ByteArray):Nat→List (ByteArray × Nat)
 | 0=>[]
 | i+1=>cAdd (gt l i) (cm l i)
theorem cm_none {l:List ByteArray} {i:Nat} {s:ByteArray} (hs:gt l i=s) (h:cIdx s (cm l i)=none):(cm l i).map entV++[.tup [.val (.string s),.val (.int .i64 1)]]=(cm l (i+1)).map entV:=by
 show _=(cAdd (gt l i) (cm l i)).map entV
 rw [hs,(cAdd_none h).1];simp [entV]
theorem cm_some {l:List ByteArray} {i j:Nat} {s:ByteArray} (hs:gt l i=s) (h:cIdx s (cm l i)=some j):lset ((cm l i).map entV) j (.tup [.val (.string s),.val (.int .i64 ((cGet s (cm l i):Nat)+1))])=(cm l (i+1)).map entV:=by
 show _=(cAdd (gt l i) (cm l i)).map entV
 rw [hs,(cAdd_some h).1,lset_eq,List.map_set];rfl
theorem kf_none {l:List ByteArray} {i:Nat} {s:ByteArray} (h:cIdx s (cm l i)=none):kfind (.string s) ((cm l i).map entV) 0=some none:=by rw [kfind_ent,h];rfl
theorem kf_some {l:List ByteArray} {i j:Nat} {s:ByteArray} (h:cIdx s (cm l i)=some j):kfind (.string s) ((cm l i).map entV) 0=some (some (j,.val (.int .i64 (cGet s (cm l i):Nat)))):=by rw [kfind_ent,h];simp
theorem lkR_ent {l:List ByteArray} {i:Nat} {s:ByteArray} {M:Tab} {a b:Nat}:lkR false M ⟨.int .i64,a,b,[.val (.int .i64 0)]⟩ (kfind (.string s) ((cm l i).map entV) 0)=.m True M [] (some (.val (.int .i64 (cGet s (cm l i):Nat)))):=by
 rcases h:cIdx s (cm l i) with _ | j
 ·rw [kf_none h,(cAdd_none h).2];rfl
 ·rw [kf_some h];rfl
theorem cAdd_facts {s:ByteArray}:∀{m:List (ByteArray × Nat)},(∀t,cGet t (cAdd s m)=cGet t m+if t=s then 1 else 0)∧(cAdd s m).length=m.length+if cIdx s m=none then 1 else 0
 | []=>by
  refine ⟨fun t=>?_,by simp [cAdd,cIdx]⟩
  by_cases h:t=s<;>simp [cAdd,cGet,h]
 | (u,n)::m=>by
  obtain ⟨h1,h2⟩:=cAdd_facts (s:=s) (m:=m)
  by_cases e:s=u
  ·subst e
   refine ⟨fun t=>?_,by simp [cAdd,cIdx]⟩
   by_cases h:t=s<;>simp [cAdd,cGet,h]
  ·refine ⟨fun t=>?_,by simp [cAdd,cIdx,e,h2];omega⟩
   by_cases h:t=u
   ·subst h;simp [cAdd,cGet,e,Ne.symm e]
   ·simp [cAdd,cGet,e,h,h1]
theorem cm_facts {l:List ByteArray}:∀i,i≤l.length→(∀t,0<cGet t (cm l i)↔t∈l.take i)∧(∀t,cGet t (cm l i)≤i)∧(∀t,cIdx t (cm l i)=none↔t∉l.take i)∧(cm l i).length≤i∧((cm l i).length=i↔(l.take i).Nodup)
 | 0,_=>by simp [cm,cGet,cIdx]
 | i+1,hi=>by
  obtain ⟨h1,h2,h3,h4,h5⟩:=cm_facts (l:=l) i (by omega)
  obtain ⟨g1,g2⟩:=cAdd_facts (s:=gt l i) (m:=cm l i)
  have gi:∀(s t:ByteArray) (m:List (ByteArray × Nat)),cIdx t (cAdd s m)=none↔cIdx t m=none∧t≠s:=by
   intro s t m
   induction m with
   | nil =>
    by_cases h:t=s<;>simp [cAdd,cIdx,h]
   | cons a m ih =>
    obtain ⟨u,n⟩:=a
    by_cases e:s=u
    ·subst e
     by_cases h:t=s<;>simp [cAdd,cIdx,h]
    ·by_cases h:t=u
     ·simp [cAdd,cIdx,e,h]
     ·simp [cAdd,cIdx,e,h,ih]
  refine ⟨fun t=>?_,fun t=>?_,fun t=>?_,?_,?_⟩
  ·rw [mem_take1 hi,←h1 t]
   show 0<cGet t (cAdd _ _)↔_
   rw [g1];split<;>simp_all
  ·show cGet t (cAdd _ _)≤_
   rw [g1];have:=h2 t;split<;>omega
  ·show cIdx t (cAdd _ _)=none↔_
   rw [gi,mem_take1 hi,h3];simp
  ·show (cAdd _ _).length≤_
   rw [g2];split<;>omega
  ·show (cAdd _ _).length=_↔_
   rw [g2,nodup_take hi,←h3,←h5]
   by_cases h:cIdx (gt l i) (cm l i)=none
   ·simp [h]
   ·simp [h];omega
theorem badN_cm {l:List ByteArray}:(decide ((cm l l.length).length<l.length)||decide (0<cGet e0 (cm l l.length)))=badN l:=by
 obtain ⟨h1,h2,h3,h4,h5⟩:=cm_facts (l:=l) l.length (by omega)
 rw [List.take_length] at h1 h3 h5
 unfold badN
 congr 1
 ·refine decide_eq_decide.2 ⟨fun h hn=>?_,fun h=>?_⟩
  ·have:=h5.2 hn;omega
  ·rcases Nat.lt_or_ge (cm l l.length).length l.length with h' | h'
   ·exact h'
   ·exact absurd (h5.1 (by omega)) h
 ·rw [Bool.eq_iff_iff,any_e0,decide_eq_true_iff];exact h1 e0
/-! rows -/
def badT (n:Nat):Int→List Term→Bool
 | _,[]=>false
 | last,t::ts=>decide (t.col≤last)||decide ((n:Int)≤t.col)||decide (t.num=0)||badT n t.col ts
theorem badT_drop {n:Nat} {ts:List Term} {k:Nat} {c:Int} (h:k<ts.length):badT n c (ts.drop k)=(decide ((gt ts k).col≤c)||decide ((n:Int)≤(gt ts k).col)||decide ((gt ts k).num=0)||badT n (gt ts k).col (ts.drop (k+1))):=by
 rw [drop_gt h];rfl
def badR (p:Prob):Bool:=p.rows.any fun r=>badT p.cols.length (-1) r.terms
def colN (p:Prob):List ByteArray:=p.cols.map (·.name)
def rowN (p:Prob):List ByteArray:=p.rows.map (·.name)
theorem colN_len (p:Prob):(colN p).length=p.cols.length:=by simp [colN]
theorem rowN_len (p:Prob):(rowN p).length=p.rows.length:=by simp [rowN]
theorem gt_colN {p:Prob} {i:Nat} (h:i<p.cols.length):gt (colN p) i=(gt p.cols i).name:=by
 unfold colN;rw [←gt_get (by simpa using h),List.getElem_map,gt_get h]
theorem gt_rowN {p:Prob} {i:Nat} (h:i<p.rows.length):gt (rowN p) i=(gt p.rows i).name:=by
 unfold rowN;rw [←gt_get (by simpa using h),List.getElem_map,gt_get h]
noncomputable def validC (p:Prob):Nat :=
 if 120<p.cols.length∨120<p.rows.length then 2 else if (badN (colN p)||badN (rowN p))=true then 7 else if badR p=true then 4 else 0
theorem valid_2 {p:Prob} (h:120<p.cols.length∨120<p.rows.length):validC p=2:=by unfold validC;rw [if_pos h]
theorem valid_7 {p:Prob} (h:¬(120<p.cols.length∨120<p.rows.length)) (h':badN (colN p)=true∨badN (rowN p)=true):validC p=7:=by
 unfold validC;rw [if_neg h,if_pos (by simpa using h')]
theorem valid_4 {p:Prob} (h:¬(120<p.cols.length∨120<p.rows.length)) (h1:badN (colN p)=false) (h2:badN (rowN p)=false) (h':badR p=true):validC p=4:=by
 unfold validC;rw [if_neg h,if_neg (by simp [h1,h2]),if_pos h']
theorem valid_0 {p:Prob} (h:¬(120<p.cols.length∨120<p.rows.length)) (h1:badN (colN p)=false) (h2:badN (rowN p)=false) (h':badR p=false):validC p=0:=by
 unfold validC;rw [if_neg h,if_neg (by simp [h1,h2]),if_neg (by simp [h'])]
theorem badR_at {p:Prob} {i:Nat} (hi:i<p.rows.length) (h:badT p.cols.length (-1) (gt p.rows i).terms=true):badR p=true:=by
 unfold badR;rw [List.any_eq_true];exact ⟨_,gt_mem hi,h⟩
theorem badR_no {p:Prob} (h:∀i,i<p.rows.length→badT p.cols.length (-1) (gt p.rows i).terms=false):badR p=false:=by
 unfold badR;rw [List.any_eq_false]
 intro r hr
 obtain ⟨i,hi,rfl⟩:=List.getElem_of_mem hr
 rw [gt_get hi,h i hi];simp
end Go.Li
namespace Go.Proofs
open Go.Sv Go Go.Tb Go.Pl Go.Ut Go.Li
structure Few (p:Prob):Prop where
 nc:p.cols.length≤1048576
 nr:p.rows.length≤1048576
 nt:∀i,i<p.rows.length→(gt p.rows i).terms.length≤1048576
theorem lget_cols {r:Row} {k:Nat} (h:k<r.terms.length):lget (r.terms.map fun t=>SV.val (.int .i64 t.col)) k=.val (.int .i64 (gt r.terms k).col):=lget_m (fun t:Term=>SV.val (.int .i64 t.col)) h
theorem lget_nums {r:Row} {k:Nat} (h:k<r.terms.length):lget (r.terms.map fun t=>qsv t.num) k=qsv (gt r.terms k).num:=lget_m (fun t:Term=>qsv t.num) h
theorem rValid_ok (p:Prob) (h:Few p):PureF Tryz.prog 28 [probP p] (.val (.int .i64 (validC p:Nat))):=by
 have nc:=h.nc
 have nr:=h.nr
 have lc:=colN_len p
 have lr:=rowN_len p
 refine pure_enter Tryz.func28 rfl (by simp) (fun C hC=>?_)
 simp
 repeat' (apply And.intro<;>intro _)
 ·have e:=valid_2 (p:=p) (.inr (by omega))
  simp [e]
 ·have h2:¬(120<p.cols.length∨120<p.rows.length):=by omega
  refine CodeJ.loopL (ι:=Nat) (fun i=>⟨138,[(1,.ptr 0 0 0),(3,iv i)],[some ⟨7,[probP p],false⟩]⟩)
   (fun i=>i≤p.cols.length∧((colN p).take i).Nodup∧e0∉(colN p).take i) (fun i=>p.cols.length - i) 0 (by simp) ?_ ?_
  ·simp [leS,hC]
  ·rintro i ⟨hi,hd,he⟩
   by_cases hlt:i<p.cols.length
   ·simp (disch:=omega) [hlt]
    repeat (refine And.intro (by omega) ?_)
    refine CodeJ.loopL (ι:=Nat) (fun k=>⟨138,[(1,.ptr 0 0 0),(3,iv i),(4,iv k)],[some ⟨7,[probP p],false⟩]⟩)
     (fun k=>k≤i∧∀k',k'<k→gt (colN p) i≠gt (colN p) k') (fun k=>i - k) 0 (by simp) ?_ ?_
    ·simp [leS,hC]
    ·rintro k ⟨hk,hn⟩
     by_cases hki:k<i
     ·simp (disch:=omega) [hki]
      repeat (refine And.intro (by omega) ?_)
      refine CodeJ.draw (.qs [0,1,2,3,4,5,6,7,8,9,10,11,12]<|.nil) (by kernel_rfl) (by kernel_rfl) (by simp) ?_
      have hkl:k<p.cols.length:=by omega
      simp (disch:=omega) [lget_colP,w64]
      repeat (refine And.intro (by omega) ?_)
      rw [←gt_colN hlt,←gt_colN hkl]
      refine ⟨fun q=>?_,fun q=>⟨k+1,⟨by omega,fun k' hk'=>?_⟩,by omega,Le.syn (by simp (disch:=omega) [leS,hC,w64])⟩⟩
      ·simp [valid_7 h2 (.inl (badN_dup (by omega) hki q))]
      ·rcases Nat.lt_or_ge k' k with h' | h'
       ·exact hn k' h'
       ·obtain rfl:k'=k:=by omega
        exact q
     ·obtain rfl:k=i:=by omega
      simp (disch:=omega) [lget_colP,w64,hlt]
      repeat (refine And.intro (by omega) ?_)
      rw [←gt_colN hlt]
      refine ⟨fun q=>?_,fun q=>⟨k+1,⟨by omega,(nodup_take (by omega)).2 ⟨hd,(not_mem_take (by omega)).2 hn⟩,fun hm=>?_⟩,by omega,Le.syn (by simp (disch:=omega) [leS,hC,w64])⟩⟩
      ·simp [valid_7 h2 (.inl (badN_e (by omega) q))]
      ·rcases (mem_take1 (by omega)).1 hm with h' | h'
       ·exact he h'
       ·exact q h'.symm
   ·obtain rfl:i=p.cols.length:=by omega
    rw [List.take_of_length_le (by omega)] at hd he
    have hbc:=badN_no hd he
    simp
    refine CodeJ.loopL (ι:=Nat) (fun i=>⟨138,[(1,.ptr 0 0 0),(5,iv i)],[some ⟨7,[probP p],false⟩]⟩)
     (fun i=>i≤p.rows.length∧((rowN p).take i).Nodup∧e0∉(rowN p).take i) (fun i=>p.rows.length - i) 0 (by simp) ?_ ?_
    ·simp [leS,hC]
    ·rintro i ⟨hi,hd,he⟩
     by_cases hlt:i<p.rows.length
     ·simp (disch:=omega) [hlt]
      repeat (refine And.intro (by omega) ?_)
      refine CodeJ.loopL (ι:=Nat) (fun k=>⟨138,[(1,.ptr 0 0 0),(5,iv i),(6,iv k)],[some ⟨7,[probP p],false⟩]⟩)
       (fun k=>k≤i∧∀k',k'<k→gt (rowN p) i≠gt (rowN p) k') (fun k=>i - k) 0 (by simp) ?_ ?_
      ·simp [leS,hC]
      ·rintro k ⟨hk,hn⟩
       by_cases hki:k<i
       ·simp (disch:=omega) [hki]
        repeat (refine And.intro (by omega) ?_)
        refine CodeJ.draw (.qs [0,1,2,3,4,5,6,7,8,9,10,11,12]<|.nil) (by kernel_rfl) (by kernel_rfl) (by simp) ?_
        have hkl:k<p.rows.length:=by omega
        simp (disch:=omega) [lget_rowP,w64]
        repeat (refine And.intro (by omega) ?_)
        rw [←gt_rowN hlt,←gt_rowN hkl]
        refine ⟨fun q=>?_,fun q=>⟨k+1,⟨by omega,fun k' hk'=>?_⟩,by omega,Le.syn (by simp (disch:=omega) [leS,hC,w64])⟩⟩
        ·simp [valid_7 h2 (.inr (badN_dup (by omega) hki q))]
        ·rcases Nat.lt_or_ge k' k with h' | h'
         ·exact hn k' h'
         ·obtain rfl:k'=k:=by omega
          exact q
       ·obtain rfl:k=i:=by omega
        simp (disch:=omega) [lget_rowP,w64,hlt]
        repeat (refine And.intro (by omega) ?_)
        rw [←gt_rowN hlt]
        refine ⟨fun q=>?_,fun q=>⟨k+1,⟨by omega,(nodup_take (by omega)).2 ⟨hd,(not_mem_take (by omega)).2 hn⟩,fun hm=>?_⟩,by omega,Le.syn (by simp (disch:=omega) [leS,hC,w64])⟩⟩
        ·simp [valid_7 h2 (.inr (badN_e (by omega) q))]
        ·rcases (mem_take1 (by omega)).1 hm with h' | h'
         ·exact he h'
         ·exact q h'.symm
     ·obtain rfl:i=p.rows.length:=by omega
      rw [List.take_of_length_le (by omega)] at hd he
      have hbr:=badN_no hd he
      simp
      refine CodeJ.loopL (ι:=Nat) (fun i=>⟨138,[(1,.ptr 0 0 0),(7,iv i)],[some ⟨7,[probP p],false⟩]⟩)
       (fun i=>i≤p.rows.length∧∀i',i'<i→badT p.cols.length (-1) (gt p.rows i').terms=false) (fun i=>p.rows.length - i) 0 (by simp) ?_ ?_
      ·simp [leS,hC]
      ·rintro i ⟨hi,hb⟩
       by_cases hlt:i<p.rows.length
       ·have nt:=h.nt i hlt
        simp (disch:=omega) [hlt]
        repeat (refine And.intro (by omega) ?_)
        refine CodeJ.loopL (ι:=Nat × Int) (fun ⟨k,c⟩=>⟨138,[(1,.ptr 0 0 0),(7,iv i),(8,iv c),(9,iv k)],[some ⟨7,[probP p],false⟩]⟩)
         (fun ⟨k,c⟩=>k≤(gt p.rows i).terms.length∧badT p.cols.length c ((gt p.rows i).terms.drop k)=badT p.cols.length (-1) (gt p.rows i).terms) (fun ⟨k,c⟩=>(gt p.rows i).terms.length - k) (0, -1) (by simp) ?_ ?_
        ·simp [leS,hC]
        ·rintro ⟨k,c⟩ ⟨hk,hc⟩
         by_cases hkl:k<(gt p.rows i).terms.length
         ·rw [badT_drop hkl] at hc
          simp (disch:=omega) [lget_rowP,hkl,lget_cols,lget_nums]
          repeat (refine And.intro (by omega) ?_)
          refine callS (sgnP (gt (gt p.rows i).terms k).num) (by simp) ?_
          simp (disch:=omega) [w64]
          repeat (refine And.intro (by omega) ?_)
          have v4:badT p.cols.length (-1) (gt p.rows i).terms=true→(4:Int)=(validC p:Nat):=fun e=>by rw [valid_4 h2 hbc hbr (badR_at hlt e)];rfl
          refine ⟨fun q1=>⟨fun q2=>⟨fun q3=>v4 (by rw [←hc];simp [q3]),fun q3=>?_⟩,fun q2=>v4 (by rw [←hc];simp [q2])⟩,fun q1=>v4 (by rw [←hc];simp [q1])⟩
          refine ⟨k+1,(gt (gt p.rows i).terms k).col,⟨by omega,?_⟩,by omega,Le.syn (by simp (disch:=omega) [leS,hC,w64])⟩
          rw [←hc]
          simp [q3,show ¬(gt (gt p.rows i).terms k).col≤c by omega,show ¬(p.cols.length:Int)≤(gt (gt p.rows i).terms k).col by omega]
         ·obtain rfl:k=(gt p.rows i).terms.length:=by omega
          rw [List.drop_length] at hc
          simp (disch:=omega) [lget_rowP]
          repeat (refine And.intro (by omega) ?_)
          refine ⟨i+1,⟨by omega,fun i' hi'=>?_⟩,by omega,Le.syn (by simp (disch:=omega) [leS,hC,w64])⟩
          rcases Nat.lt_or_ge i' i with h' | h'
          ·exact hb i' h'
          ·obtain rfl:i'=i:=by omega
           exact hc.symm
       ·obtain rfl:i=p.rows.length:=by omega
        simp [valid_0 h2 hbc hbr (badR_no hb)]
 ·have e:=valid_2 (p:=p) (.inl (by omega))
  simp [e]
end Go.Proofs
namespace Go.Proofs
open Go.Sv Go Go.Tb Go.Pl Go.Ut Go.Li
theorem lget_terms {r:Row} {k:Nat} (h:k<r.terms.length):lget (r.terms.map termQ) k=termQ (gt r.terms k):=lget_m termQ h
theorem qValid_ok (p:Prob) (h:Few p):PureF Tryz.prog 76 [.rop (probQ p) 0] (erV (validC p)):=by
 have nc:=h.nc
 have nr:=h.nr
 have lc:=colN_len p
 have lr:=rowN_len p
 refine pure_enter Tryz.func76 rfl (by simp) (fun C hC=>?_)
 simp
 repeat' (apply And.intro<;>intro _)
 ·rw [valid_2 (p:=p) (.inr (by omega)),erV_2]
 ·have h2:¬(120<p.cols.length∨120<p.rows.length):=by omega
  refine CodeJ.loopL (ι:=Nat) (fun i=>⟨134,[(0,.rop (probQ p) 0),(3,.mp 0),(4,.mp 1),(37,.ro (p.cols.map colQ)),(38,iv p.cols.length),(39,iv i)],[some ⟨0,(cm (colN p) i).map entV,false⟩,some ⟨0,[],false⟩]⟩)
   (fun i=>i≤p.cols.length) (fun i=>p.cols.length - i) 0 (by simp) ?_ ?_
  ·simp [leS,hC,cm]
  ·rintro i hi
   by_cases hlt:i<p.cols.length
   ·obtain ⟨f1,f2,f3,f4,f5⟩:=cm_facts (l:=colN p) i (by omega)
    have g:=f2 (gt p.cols i).name
    rcases hq:cIdx (gt p.cols i).name (cm (colN p) i) with _ | j
    ·simp (disch:=omega) [hlt,lget_colQ,kf_none hq]
     repeat (refine And.intro (by omega) ?_)
     exact ⟨i+1,by omega,by omega,Le.syn (by simp (disch:=omega) [leS,hC,w64,cm_none (gt_colN hlt) hq])⟩
    ·simp (disch:=omega) [hlt,lget_colQ,kf_some hq]
     repeat (refine And.intro (by omega) ?_)
     exact ⟨i+1,by omega,by omega,Le.syn (by simp (disch:=omega) [leS,hC,w64,cm_some (gt_colN hlt) hq])⟩
   ·obtain rfl:i=p.cols.length:=by omega
    simp
    repeat (refine And.intro (by omega) ?_)
    refine CodeJ.loopL (ι:=Nat) (fun i=>⟨134,[(0,.rop (probQ p) 0),(3,.mp 0),(4,.mp 1),(52,.ro (p.rows.map rowQ)),(53,iv p.rows.length),(54,iv i)],[some ⟨0,(cm (colN p) p.cols.length).map entV,false⟩,some ⟨0,(cm (rowN p) i).map entV,false⟩]⟩)
     (fun i=>i≤p.rows.length) (fun i=>p.rows.length - i) 0 (by simp) ?_ ?_
    ·simp [leS,hC,cm]
    ·rintro i hi
     by_cases hlt:i<p.rows.length
     ·obtain ⟨f1,f2,f3,f4,f5⟩:=cm_facts (l:=rowN p) i (by omega)
      have g:=f2 (gt p.rows i).name
      rcases hq:cIdx (gt p.rows i).name (cm (rowN p) i) with _ | j
      ·simp (disch:=omega) [hlt,lget_rowQ,kf_none hq]
       repeat (refine And.intro (by omega) ?_)
       exact ⟨i+1,by omega,by omega,Le.syn (by simp (disch:=omega) [leS,hC,w64,cm_none (gt_rowN hlt) hq])⟩
      ·simp (disch:=omega) [hlt,lget_rowQ,kf_some hq]
       repeat (refine And.intro (by omega) ?_)
       exact ⟨i+1,by omega,by omega,Le.syn (by simp (disch:=omega) [leS,hC,w64,cm_some (gt_rowN hlt) hq])⟩
     ·obtain rfl:i=p.rows.length:=by omega
      have bc:=badN_cm (l:=colN p)
      have br:=badN_cm (l:=rowN p)
      rw [lc] at bc
      rw [lr] at br
      have v7:badN (colN p)=true∨badN (rowN p)=true→erV (validC p)=.sen sent 7:=fun h7=>by rw [valid_7 h2 h7,erV_7]
      simp
      repeat (refine And.intro (by omega) ?_)
      refine CodeJ.draw (.qs [0,2,3,4,5,6]<|.l 1 []<|.qs [7,8,9,11,12,13,14,15]<|.l 10 []<|.qs [16,17,18,19]<|.l 20 []<|.qs [21,22,23,24]<|.l 25 []<|.qs [26,27]<|.nil) (by kernel_rfl) (by kernel_rfl) (by simp) ?_
      simp [lkR_ent]
      refine ⟨fun q1=>⟨fun q2=>⟨fun q3=>⟨fun q4=>v7 (.inr (by rw [←br];simp [e0,q4])),fun q4=>?_⟩,fun q3=>v7 (.inl (by rw [←bc];simp [e0,q3]))⟩,fun q2=>v7 (.inr (by rw [←br];simp [q2]))⟩,fun q1=>v7 (.inl (by rw [←bc];simp [q1]))⟩
      have hbc:badN (colN p)=false:=by rw [←bc];simp [e0,q3];omega
      have hbr:badN (rowN p)=false:=by rw [←br];simp [e0,q4];omega
      refine CodeJ.loopL (ι:=Nat) (fun i=>⟨134,[(0,.rop (probQ p) 0),(96,.ro (p.rows.map rowQ)),(97,iv p.rows.length),(98,iv i)],[]⟩)
       (fun i=>i≤p.rows.length∧∀i',i'<i→badT p.cols.length (-1) (gt p.rows i').terms=false) (fun i=>p.rows.length - i) 0 (by simp) ?_ ?_
      ·simp [leS,hC]
      ·rintro i ⟨hi,hb⟩
       by_cases hlt:i<p.rows.length
       ·have nt:=h.nt i hlt
        simp (disch:=omega) [hlt,lget_rowQ]
        repeat (refine And.intro (by omega) ?_)
        refine CodeJ.loopL (ι:=Nat × Int) (fun ⟨k,c⟩=>⟨134,[(0,.rop (probQ p) 0),(96,.ro (p.rows.map rowQ)),(97,iv p.rows.length),(98,iv i),(11,iv c),(103,.ro ((gt p.rows i).terms.map termQ)),(104,iv (gt p.rows i).terms.length),(105,iv k)],[]⟩)
         (fun ⟨k,c⟩=>k≤(gt p.rows i).terms.length∧badT p.cols.length c ((gt p.rows i).terms.drop k)=badT p.cols.length (-1) (gt p.rows i).terms) (fun ⟨k,c⟩=>(gt p.rows i).terms.length - k) (0, -1) (by simp) ?_ ?_
        ·simp [leS,hC]
        ·rintro ⟨k,c⟩ ⟨hk,hc⟩
         by_cases hkl:k<(gt p.rows i).terms.length
         ·rw [badT_drop hkl] at hc
          simp (disch:=omega) [hkl,lget_terms]
          repeat (refine And.intro (by omega) ?_)
          refine CodeJ.draw (.qs [0,1,2,3,4,5,6,7,8,9,10,11,12,13,14,15,16]<|.l 17 []<|.qs [18,19]<|.nil) (by kernel_rfl) (by kernel_rfl) (by simp) ?_
          simp (disch:=omega) [hkl,lget_terms]
          repeat (refine And.intro (by omega) ?_)
          have v4:badT p.cols.length (-1) (gt p.rows i).terms=true→erV (validC p)=.sen sent 0:=fun e=>by rw [valid_4 h2 hbc hbr (badR_at hlt e),erV_4]
          refine ⟨fun q1=>⟨fun q2=>?_,fun q2=>v4 (by rw [←hc];simp [q2])⟩,fun q1=>v4 (by rw [←hc];simp [q1])⟩
          refine callS (sgnQ (gt (gt p.rows i).terms k).num) (by simp) ?_
          simp (disch:=omega) [w64]
          repeat (refine And.intro (by omega) ?_)
          refine ⟨fun q3=>v4 (by rw [←hc];simp [q3]),fun q3=>?_⟩
          refine ⟨k+1,(gt (gt p.rows i).terms k).col,⟨by omega,?_⟩,by omega,Le.syn (by simp (disch:=omega) [leS,hC,w64])⟩
          rw [←hc]
          simp [q3,show ¬(gt (gt p.rows i).terms k).col≤c by omega,show ¬(p.cols.length:Int)≤(gt (gt p.rows i).terms k).col by omega]
         ·obtain rfl:k=(gt p.rows i).terms.length:=by omega
          rw [List.drop_length] at hc
          simp (disch:=omega) [w64]
          repeat (refine And.intro (by omega) ?_)
          refine ⟨i+1,⟨by omega,fun i' hi'=>?_⟩,by omega,Le.syn (by simp (disch:=omega) [leS,hC,w64])⟩
          rcases Nat.lt_or_ge i' i with h' | h'
          ·exact hb i' h'
          ·obtain rfl:i'=i:=by omega
           exact hc.symm
       ·obtain rfl:i=p.rows.length:=by omega
        simp [valid_0 h2 hbc hbr (badR_no hb),erV_0]
 ·rw [valid_2 (p:=p) (.inl (by omega)),erV_2]
end Go.Proofs
namespace Go.Li
open Go Go.Sv Go.Pl Go.Proofs Go.Tb Go.Ut
def entT:List Term→Nat→Rat
 | [],_=>0
 | t::ts,j=>if t.col=(j:Int) then t.num else entT ts j
theorem entT_drop {ts:List Term} {k j:Nat} (h:k<ts.length):entT (ts.drop k) j=if (gt ts k).col=(j:Int) then (gt ts k).num else entT (ts.drop (k+1)) j:=by
 rw [drop_gt h];rfl
def dP (p:Prob) (y:List Rat) (j:Nat):Nat→Rat
 | 0=>(gt p.cols j).cost
 | i+1=>dP p y j i - gt y i*entT (gt p.rows i).terms j
structure BoW (b:Bo):Prop where
 w:qw 2200 b.at'
structure ProbW (p:Prob):Prop where
 sh:qw 2200 p.shift
 co:∀j,j<p.cols.length→qw 2200 (gt p.cols j).cost∧qw 2200 (gt p.cols j).low.at'∧qw 2200 (gt p.cols j).high.at'
 ro:∀i,i<p.rows.length→qw 2200 (gt p.rows i).low.at'∧qw 2200 (gt p.rows i).high.at'
 te:∀i,i<p.rows.length→∀k,k<(gt p.rows i).terms.length→qw 2200 (gt (gt p.rows i).terms k).num
theorem qw_entT {k:Nat} (hk:1≤k):∀{ts:List Term} {j:Nat},(∀i,i<ts.length→qw k (gt ts i).num)→qw k (entT ts j)
 | [],j,_=>qw_zero k hk
 | t::ts,j,h=>by
  unfold entT
  split
  ·exact h 0 (by simp)
  ·exact qw_entT hk fun i hi=>h (i+1) (by simpa using hi)
/-! between two ends -/
structure Sp where
 lo:Bo
 hi:Bo
def joinB (a b:Bo) (r:Rat):Bo:=if a.has=true∧b.has=true then ⟨true,a.at'+b.at'*r⟩ else ⟨false,0⟩
def plusS (s:Sp) (low high:Bo) (r:Rat):Sp:=if r=0 then s else if r<0 then ⟨joinB s.lo high r,joinB s.hi low r⟩ else ⟨joinB s.lo low r,joinB s.hi high r⟩
def spR (p:Prob) (y:List Rat):Nat→Sp
 | 0=>⟨⟨true,p.shift⟩,⟨true,p.shift⟩⟩
 | i+1=>plusS (spR p y i) (gt p.rows i).low (gt p.rows i).high (gt y i)
def spC (p:Prob) (y:List Rat):Nat→Sp
 | 0=>spR p y p.rows.length
 | j+1=>plusS (spC p y j) (gt p.cols j).low (gt p.cols j).high (dP p y j p.rows.length)
def spP (s:Sp):SV:=.agg ((boP s.lo).cells++(boP s.hi).cells)
@[simp] theorem spP_csz (s:Sp):(spP s).csz=10:=rfl
@[simp] theorem spP_isTup (s:Sp):(spP s).isTup=false:=rfl
@[simp] theorem spP_isAgg (s:Sp):(spP s).isAgg=true:=rfl
@[simp] theorem spP_pure (s:Sp):(spP s).pure=true:=rfl
@[simp] theorem spP_lt (n:Nat) (s:Sp):(spP s).lt n=true:=rfl
@[simp] theorem spP_f0 (s:Sp):SV.agg ((spP s).cells.take 5)=boP s.lo:=rfl
@[simp] theorem spP_f5 (s:Sp):SV.agg (((spP s).cells.drop 5).take 5)=boP s.hi:=rfl
@[simp] theorem boP_q (b:Bo):SV.agg (List.take 4 (boP b).cells.tail)=qb b:=rfl
@[simp] theorem probP_sh (p:Prob):SV.agg (List.take 4 (probP p).cells.tail)=qsv p.shift:=rfl
@[simp] theorem probQ_sh (p:Prob):SV.agg (List.take 4 (probQ p).cells.tail)=rsv p.shift:=rfl
end Go.Li
namespace Go.Proofs
open Go.Sv Go Go.Tb Go.Pl Go.Ut Go.Li
theorem rEntry_ok (r:Row) (hn:r.terms.length≤1048576) (j:Nat) (hj:j≤1048576):PureF Tryz.prog 130 [rowP r,iv j] (qsv (entT r.terms j)):=by
 refine pure_enter Tryz.func130 rfl (by simp) (fun C hC=>?_)
 simp
 refine CodeJ.loopL (ι:=Nat) (fun k=>⟨26,[(1,iv j),(2,.ptr 0 0 0),(4,.ptr 1 0 0),(5,iv k)],[some ⟨13,[rowP r],false⟩,some ⟨4,[.agg [.val (.bool false),.val (.slice none 0 0),.val (.bool false),.val (.slice none 0 0)]],false⟩]⟩)
  (fun k=>k≤r.terms.length∧entT (r.terms.drop k) j=entT r.terms j) (fun k=>r.terms.length - k) 0 (by simp) ?_ ?_
 ·simp [leS,hC]
 ·rintro k ⟨hk,he⟩
  by_cases hlt:k<r.terms.length
  ·rw [entT_drop hlt] at he
   simp (disch:=omega) [hlt,lget_cols,lget_nums,w64]
   repeat (refine And.intro (by omega) ?_)
   refine ⟨fun q=>by rw [←he,if_pos q],fun q=>⟨k+1,⟨by omega,by rw [←he,if_neg q]⟩,by omega,Le.syn (by simp (disch:=omega) [leS,hC,w64])⟩⟩
  ·obtain rfl:k=r.terms.length:=by omega
   rw [List.drop_length] at he
   simp
   repeat (refine And.intro (by omega) ?_)
   refine callS (zeroP) (by simp) ?_
   simp
   rw [←he];rfl
end Go.Proofs
namespace Go.Li
open Go Go.Sv Go.Pl Go.Proofs Go.Tb Go.Ut
theorem badT_ok {n:Nat}:∀{ts:List Term} {c:Int},badT n c ts=false→∀k,k<ts.length→c<(gt ts k).col∧(gt ts k).col<n∧(gt ts k).num≠0∧∀k',k'<k→(gt ts k').col<(gt ts k).col
 | [],c,_,k,hk=>by simp at hk
 | t::ts,c,h,k,hk=>by
  simp only [badT,Bool.or_eq_false_iff,decide_eq_false_iff_not] at h
  obtain ⟨⟨⟨h1,h2⟩,h3⟩,h4⟩:=h
  have ih:=badT_ok h4
  cases k with
  | zero=>exact ⟨by show c<t.col;omega,by show t.col<n;omega,h3,fun k' h=>by omega⟩
  | succ k =>
   obtain ⟨g1,g2,g3,g4⟩:=ih k (by simpa using hk)
   have g1':t.col<(gt (t::ts) (k+1)).col:=g1
   refine ⟨by omega,g2,g3,fun k' hk'=>?_⟩
   cases k' with
   | zero=>exact g1
   | succ k'=>exact g4 k' (by omega)
theorem entT_snoc {t:Term}:∀{a:List Term} {j:Nat},entT (a++[t]) j=if t.col=(j:Int) then (if (∀k,k<a.length→(gt a k).col≠(j:Int)) then t.num else entT a j) else entT a j
 | [],j=>by simp [entT]
 | u::a,j=>by
  have ih:=entT_snoc (t:=t) (a:=a) (j:=j)
  show (if u.col=(j:Int) then u.num else entT (a++[t]) j)=_
  by_cases hu:u.col=(j:Int)
  ·have:¬∀k,k<(u::a).length→(gt (u::a) k).col≠(j:Int):=fun h=>h 0 (by simp) hu
   simp only [hu,if_true,if_neg this,entT,ite_self]
  ·have e:(∀k,k<(u::a).length→(gt (u::a) k).col≠(j:Int))↔∀k,k<a.length→(gt a k).col≠(j:Int):=by
    constructor
    ·exact fun h k hk=>h (k+1) (by simpa using hk)
    ·intro h k hk
     cases k with
     | zero=>exact hu
     | succ k=>exact h k (by simpa using hk)
   simp only [hu,if_false,entT,ih,e]
theorem entT_no:∀{a:List Term} {j:Nat},(∀k,k<a.length→(gt a k).col≠(j:Int))→entT a j=0
 | [],j,_=>rfl
 | u::a,j,h=>by
  unfold entT
  rw [if_neg (show ¬u.col=(j:Int) from h 0 (by simp)),entT_no fun k hk=>h (k+1) (by simpa using hk)]
def prR (p:Prob) (y:List Rat) (i:Nat):List Rat:=(List.range p.cols.length).map fun j=>dP p y j i
def prT (p:Prob) (y:List Rat) (i k:Nat):List Rat:=(List.range p.cols.length).map fun j=>dP p y j i - gt y i*entT ((gt p.rows i).terms.take k) j
@[simp] theorem prR_len (p:Prob) (y:List Rat) (i:Nat):(prR p y i).length=p.cols.length:=by simp [prR]
@[simp] theorem prT_len (p:Prob) (y:List Rat) (i k:Nat):(prT p y i k).length=p.cols.length:=by simp [prT]
end Go.Li
namespace Go.Proofs
open Go.Sv Go Go.Tb Go.Pl Go.Ut Go.Li
end Go.Proofs

