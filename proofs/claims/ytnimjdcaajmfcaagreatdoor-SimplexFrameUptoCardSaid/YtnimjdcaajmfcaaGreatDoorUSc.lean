/- A text of the prover's own. -/
import Derived.Test.YtnimjdcaajmfcaaGreatDoorUSb
set_option maxRecDepth 10000
namespace Go.Sx
open Go Go.Sv Go.Pl Go.Proofs Go.Tb Go.Ut Go.Mx Go.Li Go.Dt
def negP (l:List Rat) (y:Rat) (k:Nat):List Rat:=(List.range l.length).map fun x=>if x<k then -(gt l x*y) else gt l x
@[simp] theorem negP_len (l:List Rat) (y:Rat) (k:Nat):(negP l y k).length=l.length:=by simp [negP]
theorem gt_negP {l:List Rat} {y:Rat} {k x:Nat} (h:x<l.length):gt (negP l y k) x=if x<k then -(gt l x*y) else gt l x:=by unfold negP;rw [gt_range _ h]
theorem negP_zero (l:List Rat) (y:Rat):negP l y 0=l:=ext_gt' (by simp) fun x h=>by rw [gt_negP (by simpa using h)];simp
theorem negP_set {l:List Rat} {y:Rat} {k:Nat} (h:k<l.length):(negP l y k).set k (-(gt l k*y))=negP l y (k+1):=ext_gt' (by simp) fun x hx=>by
 have hx:x<l.length:=by simpa using hx
 rw [gt_set (by simpa using hx),gt_negP hx,gt_negP hx]
 by_cases e:k=x
 ·subst e;simp
 ·rw [if_neg e]
  by_cases q:x<k
  ·rw [if_pos q,if_pos (by omega)]
  ·rw [if_neg q,if_neg (by omega)]
theorem negP_skip {l:List Rat} {y:Rat} {k:Nat} (h:k<l.length) (hz:gt l k=0):negP l y (k+1)=negP l y k:=by
 rw [←negP_set h]
 refine ext_gt' (by simp) fun x hx=>?_
 have hx:x<l.length:=by simpa using hx
 rw [gt_set (by simpa using hx),gt_negP hx]
 by_cases e:k=x
 ·subst e;rw [if_pos rfl,if_neg (by omega),hz];grind
 ·rw [if_neg e]
def pivL (l:List Rat) (j out:Nat):List Rat:=((negP l (1 / gt l j) l.length).set j 0).set out (1 / gt l j)
@[simp] theorem pivL_len (l:List Rat) (j out:Nat):(pivL l j out).length=l.length:=by simp [pivL]
theorem gt_pivL {l:List Rat} {j out x:Nat} (h:x<l.length):gt (pivL l j out) x=if out=x then 1 / gt l j else if j=x then 0 else -(gt l x*(1 / gt l j)):=by
 unfold pivL
 rw [gt_set (by simpa using h),gt_set (by simpa using h),gt_negP h,if_pos h]
def addP (o l:List Rat) (f:Rat) (k:Nat):List Rat:=(List.range o.length).map fun x=>if x<k then gt o x+f*gt l x else gt o x
@[simp] theorem addP_len (o l:List Rat) (f:Rat) (k:Nat):(addP o l f k).length=o.length:=by simp [addP]
theorem gt_addP {o l:List Rat} {f:Rat} {k x:Nat} (h:x<o.length):gt (addP o l f k) x=if x<k then gt o x+f*gt l x else gt o x:=by unfold addP;rw [gt_range _ h]
theorem addP_zero (o l:List Rat) (f:Rat):addP o l f 0=o:=ext_gt' (by simp) fun x h=>by rw [gt_addP (by simpa using h)];simp
theorem addP_set {o l:List Rat} {f:Rat} {k:Nat} (h:k<o.length):(addP o l f k).set k (gt o k+f*gt l k)=addP o l f (k+1):=ext_gt' (by simp) fun x hx=>by
 have hx:x<o.length:=by simpa using hx
 rw [gt_set (by simpa using hx),gt_addP hx,gt_addP hx]
 by_cases e:k=x
 ·subst e;simp
 ·rw [if_neg e]
  by_cases q:x<k
  ·rw [if_pos q,if_pos (by omega)]
  ·rw [if_neg q,if_neg (by omega)]
theorem addP_skip {o l:List Rat} {f:Rat} {k:Nat} (h:k<o.length) (hz:gt l k=0):addP o l f (k+1)=addP o l f k:=by
 rw [←addP_set h]
 refine ext_gt' (by simp) fun x hx=>?_
 have hx:x<o.length:=by simpa using hx
 rw [gt_set (by simpa using hx),gt_addP hx]
 by_cases e:k=x
 ·subst e;rw [if_pos rfl,if_neg (by omega),hz];grind
 ·rw [if_neg e]
def elmL (o l:List Rat) (j:Nat):List Rat:=addP (o.set j 0) l (gt o j) o.length
@[simp] theorem elmL_len (o l:List Rat) (j:Nat):(elmL o l j).length=o.length:=by simp [elmL]
theorem gt_elmL {o l:List Rat} {j x:Nat} (h:x<o.length):gt (elmL o l j) x=(if j=x then 0 else gt o x)+gt o j*gt l x:=by
 unfold elmL
 rw [gt_addP (by simpa using h),if_pos h,gt_set (by simpa using h)]
theorem elmL_zero {o l:List Rat} {j:Nat} (hz:gt o j=0):elmL o l j=o:=ext_gt' (by simp) fun x h=>by
 have h:x<o.length:=by simpa using h
 rw [gt_elmL h,hz]
 split
 ·rename_i e;rw [←e,hz];grind
 ·grind
def trF (s:Tb) (i j r x:Nat):List Rat:=if x=i then pivL (gt s.R i) j (gt s.basic i) else if x<r then elmL (gt s.R x) (pivL (gt s.R i) j (gt s.basic i)) j else gt s.R x
def trR (s:Tb) (i j r:Nat):List (List Rat):=(List.range s.R.length).map (trF s i j r)
@[simp] theorem trR_len (s:Tb) (i j r:Nat):(trR s i j r).length=s.R.length:=by simp [trR]
theorem gt_trR {s:Tb} {i j r x:Nat} (h:x<s.R.length):gt (trR s i j r) x=trF s i j r x:=by unfold trR;rw [gt_range _ h]
theorem trR_zero {s:Tb} {i j:Nat}:trR s i j 0=s.R.set i (pivL (gt s.R i) j (gt s.basic i)):=ext_gt' (by simp) fun x hx=>by
 have hx:x<s.R.length:=by simpa using hx
 rw [gt_trR hx,gt_set (by simpa using hx)]
 unfold trF
 by_cases e:x=i
 ·rw [if_pos e,if_pos e.symm]
 ·rw [if_neg e,if_neg (by omega),if_neg (fun q=>e q.symm)]
theorem trR_self {s:Tb} {i j r:Nat} (h:r<s.R.length) (hr:r=i∨gt (gt s.R r) j=0):trR s i j (r+1)=trR s i j r:=ext_gt' (by simp) fun x hx=>by
 have hx:x<s.R.length:=by simpa using hx
 rw [gt_trR hx,gt_trR hx]
 unfold trF
 by_cases e:x=i
 ·rw [if_pos e,if_pos e]
 ·rw [if_neg e,if_neg e]
  by_cases q:x<r
  ·rw [if_pos q,if_pos (by omega)]
  ·rw [if_neg q]
   by_cases q2:x=r
   ·subst q2
    rw [if_pos (by omega),elmL_zero (hr.resolve_left e)]
   ·rw [if_neg (by omega)]
theorem trR_next {s:Tb} {i j r:Nat} (h:r<s.R.length) (hr:r≠i):(trR s i j r).set r (elmL (gt s.R r) (pivL (gt s.R i) j (gt s.basic i)) j)=trR s i j (r+1):=ext_gt' (by simp) fun x hx=>by
 have hx:x<s.R.length:=by simpa using hx
 rw [gt_set (by simpa using hx),gt_trR hx,gt_trR hx]
 unfold trF
 by_cases e:r=x
 ·subst e;rw [if_pos rfl,if_neg hr,if_pos (by omega)]
 ·rw [if_neg e]
  by_cases e2:x=i
  ·rw [if_pos e2,if_pos e2]
  ·rw [if_neg e2,if_neg e2]
   by_cases q:x<r
   ·rw [if_pos q,if_pos (by omega)]
   ·rw [if_neg q,if_neg (by omega)]
def turnT (s:Tb) (i j:Nat):Tb:=⟨s.wh.set j 1,s.x,s.basic.set i j,(s.row.set j i).set (gt s.basic i) (-1),trR s i j s.R.length⟩
theorem pivL_wd {l:List Rat} {j out W:Nat} (h2:2≤W) (h:Wd W l) (hj:j<l.length):Wd (2*W+1) (pivL l j out):=fun x hx=>by
 have hx:x<l.length:=by simpa using hx
 have q1:qw (1+W) (1 / gt l j):=qw_div (qw_int (k:=1) (x:=1) (fw_one (by omega)) (by omega)) (h j hj) (by omega)
 rw [gt_pivL hx]
 split
 ·exact qw_mono q1 (by omega)
 ·split
  ·exact qw_mono (qw_int (k:=1) (x:=0) (fw_zero _) (by omega)) (by omega)
  ·exact qw_mono (qw_neg (qw_mul (h x hx) q1 (by omega))) (by omega)
end Go.Sx
namespace Go.Proofs
open Go.Sv Go Go.Tb Go.Pl Go.Ut Go.Mx Go.Li Go.Dt Go.Sx
noncomputable def turnBody:Code:=Tryz.f128.body.getD .skip
theorem turnC (c:Tc) (s:Tb) (hc:TcL c) (h:TbL c s) {W:Nat} (h2:2≤W) (hW:∀i,i<c.m→Wd W (gt s.R i)) (hz:5*W≤10000000000) {i j:Nat} (hi:i<c.m) (hj:j<c.N) {C:Ctx} (fx:∀k∈C.fx,k<c.m+6) :
  CodeJ Tryz.prog C (dropC 7 turnBody) ⟨147,[(0,.ptr 0 0 0),(1,iv i),(2,iv j),(6,iv (gt s.basic i:Nat))],tT c { s with R:=trR s i j c.m } [some ⟨4,[rsv (1 / gt (gt s.R i) j)],false⟩]⟩
   (retH Tryz.prog [] [] (effK (tT c s []) [] (fun T x=>T=tT c (turnT s i j) []∧x=.tup []))):=by
 have h7:=hc.m7
 have h14:=hc.N14
 have hR:=h.R
 have hx:=h.x
 have hb:=h.b
 have hrow:=h.r
 have hwh:=h.w
 have lbi:=lget_nat (l:=s.basic) (i:=i) (by omega)
 have lyi:=lget_byV (N:=c.N) (m:=c.m) (i:=i) hi
 have bbi:=h.bb i hi
 have Ri:=h.Rr i hi
 have tg:=fun tl:Tab=>tget_rw (C:=s.R) (tl:=tl) (e:=i) (by omega)
 have lj:=lget_r (l:=gt s.R i) (i:=j) (by omega)
 have qj:=hW i hi j (by omega)
 have q1:qw 1 (1:Rat):=qw_int (k:=1) (x:=1) (fw_one (by omega)) (by omega)
 have qi:qw (1+W) (1 / gt (gt s.R i) j):=qw_div q1 qj (by omega)
 have hRr:(trR s i j c.m).length=c.m:=by rw [trR_len,hR]
 simp only [turnBody,Tryz.f128,Option.getD_some,dropC_succ,dropC_zero]
 refine CodeJ.go ?_
 simp only [tT,tH,tS,List.cons_append,List.nil_append]
 refine CodeJ.draw (.qs [0,1,2,3,4,5,6,7,8,9,10,11,12,13,14,15,16,17]<|.l 18 [3]<|.qs [19]<|.l 20 [4]<|.qs [21]<|.l 22 [4]<|.nil) (by kernel_rfl) (by kernel_rfl) (by simp) ?_
 have li1:=lget_iv (l:=s.row) (i:=j) (by omega)
 have li2:=lget_iv (l:=s.row.set j i) (i:=gt s.basic i) (by simp;omega)
 have li3:=lget_iv (l:=s.wh) (i:=j) (by omega)
 simp (disch:=omega) [hRr,hi,hj,hb,hrow,hwh,lbi,bbi,li1,li2,li3,lset_iv,lset_nat, -List.map_set]
 repeat (refine And.intro (by omega) ?_)
 have eT:turnT s i j=⟨s.wh.set j 1,s.x,s.basic.set i j,(s.row.set j i).set (gt s.basic i) (-1),trR s i j c.m⟩:=by unfold turnT;rw [hR]
 rw [eT]
 exact ⟨_,_,⟨rfl,rfl⟩,rfl,leM_tT c ⟨s.wh.set j 1,s.x,s.basic.set i j,(s.row.set j i).set (gt s.basic i) (-1),trR s i j c.m⟩ _,by simp,.inr ⟨by simp,ltM_tT (c:=c) (s:=⟨s.wh.set j 1,s.x,s.basic.set i j,(s.row.set j i).set (gt s.basic i) (-1),trR s i j c.m⟩) hRr⟩⟩
theorem turnB (c:Tc) (s:Tb) (hc:TcL c) (h:TbL c s) {W:Nat} (h2:2≤W) (hW:∀i,i<c.m→Wd W (gt s.R i)) (hz:5*W≤10000000000) {i j:Nat} (hi:i<c.m) (hj:j<c.N) {C:Ctx} (fx:∀k∈C.fx,k<c.m+6) :
  CodeJ Tryz.prog C (dropC 5 turnBody) ⟨147,[(0,.ptr 0 0 0),(1,iv i),(2,iv j),(6,iv (gt s.basic i:Nat)),(7,.view (i+6) 0 c.N),(8,.ptr (c.m+6) 0 0)],tT c { s with R:=s.R.set i ((negP (gt s.R i) (1 / gt (gt s.R i) j) c.N).set j 0) } [some ⟨4,[rsv (1 / gt (gt s.R i) j)],false⟩]⟩
   (retH Tryz.prog [] [] (effK (tT c s []) [] (fun T x=>T=tT c (turnT s i j) []∧x=.tup []))):=by
 have h7:=hc.m7
 have h14:=hc.N14
 have hR:=h.R
 have hx:=h.x
 have hb:=h.b
 have hrow:=h.r
 have hwh:=h.w
 have lbi:=lget_nat (l:=s.basic) (i:=i) (by omega)
 have lyi:=lget_byV (N:=c.N) (m:=c.m) (i:=i) hi
 have bbi:=h.bb i hi
 have Ri:=h.Rr i hi
 have tg:=fun tl:Tab=>tget_rw (C:=s.R) (tl:=tl) (e:=i) (by omega)
 have lj:=lget_r (l:=gt s.R i) (i:=j) (by omega)
 have qj:=hW i hi j (by omega)
 have q1:qw 1 (1:Rat):=qw_int (k:=1) (x:=1) (fw_one (by omega)) (by omega)
 have qi:qw (1+W) (1 / gt (gt s.R i) j):=qw_div q1 qj (by omega)
 have nlN:(negP (gt s.R i) (1 / gt (gt s.R i) j) c.N).length=c.N:=by rw [negP_len,Ri]
 have hpl:((negP (gt s.R i) (1 / gt (gt s.R i) j) c.N).set j 0).set (gt s.basic i) (1 / gt (gt s.R i) j)=pivL (gt s.R i) j (gt s.basic i):=by unfold pivL;rw [Ri]
 have l0N:((negP (gt s.R i) (1 / gt (gt s.R i) j) c.N).set j 0).length=c.N:=by rw [List.length_set,nlN]
 generalize (negP (gt s.R i) (1 / gt (gt s.R i) j) c.N).set j 0=l0 at *
 have tg0:=fun tl:Tab=>tget_rw (C:=s.R.set i l0) (tl:=tl) (e:=i) (by simp;omega)
 rw [show gt (s.R.set i l0) i=l0 by rw [gt_set (by omega),if_pos rfl]] at tg0
 have ts0:=fun tl:Tab=>tset_rw (C:=s.R.set i l0) (tl:=tl) (e:=i) (r:=pivL (gt s.R i) j (gt s.basic i)) (by simp;omega)
 rw [List.set_set,←trR_zero,←hpl] at ts0
 have hR0:(s.R.set i l0).length=c.m:=by simpa using hR
 have lk:=lget_r (l:=l0) (i:=gt s.basic i) (by omega)
 have p3:=pivL_wd (out:=gt s.basic i) h2 (hW i hi) (show j<(gt s.R i).length by omega)
 have ptL:(pivL (gt s.R i) j (gt s.basic i)).length=c.N:=by rw [pivL_len,Ri]
 refine CodeJ.cutAt 2 (fun st=>st=⟨147,[(0,.ptr 0 0 0),(1,iv i),(2,iv j),(6,iv (gt s.basic i:Nat))],tT c { s with R:=trR s i j c.m } [some ⟨4,[rsv (1 / gt (gt s.R i) j)],false⟩]⟩) ?_ ?_
 rotate_left 1
 ·rintro st rfl
  have:=turnC c s hc h h2 hW hz hi hj fx
  simp only [turnBody,Tryz.f128,Option.getD_some,dropC_succ,dropC_zero] at this ⊢
  exact this
 simp only [turnBody,Tryz.f128,Option.getD_some,dropC_succ,dropC_zero,takeC_succ,takeC_zero]
 simp only [tT,tH,tS,List.cons_append,List.nil_append]
 simp (disch:=omega) [tg0,tgA hR0,hR0,l0N,lk,lset_rat,ts0, -List.map_set]
 repeat (refine And.intro (by omega) ?_)
 refine CodeJ.loopL (ι:=Nat) (fun r=>⟨147,[(0,.ptr 0 0 0),(1,iv i),(2,iv j),(6,iv (gt s.basic i:Nat)),(7,.view (i+6) 0 c.N),(8,.ptr (c.m+6) 0 0),(71,.view 5 0 c.m),(72,iv c.m),(73,iv r)],tT c { s with R:=trR s i j r } [some ⟨4,[rsv (1 / gt (gt s.R i) j)],false⟩]⟩)
  (fun r=>r≤c.m) (fun r=>c.m - r) 0 (by simp) ?_ ?_
 ·simp [leS,tT,tH,tS,leM_self]
 ·rintro r hr
  have hRr:(trR s i j r).length=c.m:=by rw [trR_len,hR]
  by_cases hrm:r<c.m
  ·have lyr:=lget_byV (N:=c.N) (m:=c.m) (i:=r) hrm
   have er:gt (trR s i j r) r=if r=i then pivL (gt s.R i) j (gt s.basic i) else gt s.R r:=by
    rw [gt_trR (by omega)];unfold trF;rw [if_neg (show ¬r<r by omega)]
   have tgr:=fun tl:Tab=>tget_rw (C:=trR s i j r) (tl:=tl) (e:=r) (by omega)
   have Rr:=h.Rr r hrm
   by_cases e:r=i
   ·subst e
    rw [if_pos rfl] at er
    rw [er] at tgr
    have lj':=lget_r (l:=pivL (gt s.R r) j (gt s.basic r)) (i:=j) (by omega)
    simp only [tT,tH,tS,List.cons_append,List.nil_append]
    simp (disch:=omega) [hrm,lyr,tgr,hRr,tgA hRr,tgB hRr,tsA hRr,tsB hRr,ptL,lj',hj]
    repeat (refine And.intro (by omega) ?_)
    refine ⟨r+1,by omega,by omega,?_⟩
    rw [trR_self (by omega) (.inl rfl)]
    exact le_tT { s with R:=trR s r j r } hRr fx (by simp (disch:=omega) [leF,Go.Sv.get,w64]) (by simp [leM]) (by simp [ltF];omega) (by simp [ltM])
   ·rw [if_neg e] at er
    rw [er] at tgr
    have lj':=lget_r (l:=gt s.R r) (i:=j) (by omega)
    have e':¬(r:Int)=i:=by omega
    simp only [tT,tH,tS,List.cons_append,List.nil_append]
    simp (disch:=omega) [hrm,lyr,tgr,hRr,tgA hRr,tgB hRr,tsA hRr,tsB hRr,Rr,lj',hj,e']
    repeat (refine And.intro (by omega) ?_)
    have nx:=trR_next (s:=s) (i:=i) (j:=j) (r:=r) (by omega) e
    have gi:∀y,gt ((trR s i j r).set r y) i=pivL (gt s.R i) j (gt s.basic i):=fun y=>by rw [gt_set (by omega),if_neg e,gt_trR (by omega)];unfold trF;rw [if_pos rfl]
    clear e e' er lbi lyi tg0 ts0 hpl tg
    refine callS (qSign_ok (gt (gt s.R r) j)) (by simp) ?_
    simp (disch:=omega) [w64,Int.sign_eq_zero_iff_zero,Rat.num_eq_zero]
    repeat (refine And.intro (by omega) ?_)
    refine ⟨fun z=>?_,fun z=>?_⟩
    ·refine ⟨r+1,by omega,by omega,?_⟩
     rw [trR_self (by omega) (.inr z)]
     exact le_tT { s with R:=trR s i j r } hRr fx (by simp (disch:=omega) [leF,Go.Sv.get,w64]) (by simp [leM]) (by simp [ltF];omega) (by simp [ltM])
    ·simp (disch:=omega) [hrm,tgr,hRr,tgA hRr,tgB hRr,tsA hRr,tsB hRr,Rr,lj',hj]
     repeat (refine And.intro (by omega) ?_)
     refine CodeJ.le (le_nlR (tl:=[some ⟨4,[rsv (1 / gt (gt s.R i) j)],false⟩,some ⟨4,[rsv (gt (gt s.R r) j)],false⟩]) (tl':=[some ⟨4,[rsv (1 / gt (gt s.R i) j)],false⟩,some ⟨4,[rsv (gt (gt s.R r) j)],false⟩])
      (fr':=[(0,.ptr 0 0 0),(1,iv i),(2,iv j),(6,iv (gt s.basic i:Nat)),(7,.view (i+6) 0 c.N),(8,.ptr (c.m+6) 0 0),(71,.view 5 0 c.m),(72,iv c.m),(73,iv r),(12,.view (r+6) 0 c.N),(13,.ptr (c.m+7) 0 0),(95,iv c.N),(96,iv (0:Nat))]) { s with R:=trR s i j r } hRr hrm fx ?_ (by simp [leM]) (by simp [ltF];omega) (by simp [ltM])) ?_
     ·simp [leF,Go.Sv.get]
     have oN:((gt s.R r).set j 0).length=c.N:=by rw [List.length_set,Rr]
     have qf:=hW r hrm j (by omega)
     have qo:∀k,k<c.N→qw W (gt ((gt s.R r).set j 0) k):=fun k hk=>by
      rw [gt_set (by omega)]
      split
      ·exact qw_mono (qw_int (k:=1) (x:=0) (fw_zero _) (by omega)) (by omega)
      ·exact hW r hrm k (by omega)
     rw [show elmL (gt s.R r) (pivL (gt s.R i) j (gt s.basic i)) j=addP ((gt s.R r).set j 0) (pivL (gt s.R i) j (gt s.basic i)) (gt (gt s.R r) j) c.N by unfold elmL;rw [Rr]] at nx
     generalize pivL (gt s.R i) j (gt s.basic i)=l2 at *
     generalize (gt s.R r).set j 0=o0 at *
     generalize trR s i j r=R0 at *
     generalize gt (gt s.R r) j=f at *
     generalize 1 / gt (gt s.R i) j=inv at *
     clear hx hb hrow hwh Ri nlN l0N hR0 Rr lj' lj hR hr tgr lyr
     refine CodeJ.loopL (ι:=Nat) (fun k=>⟨147,[(0,.ptr 0 0 0),(1,iv i),(2,iv j),(6,iv (gt s.basic i:Nat)),(7,.view (i+6) 0 c.N),(8,.ptr (c.m+6) 0 0),(71,.view 5 0 c.m),(72,iv c.m),(73,iv r),(12,.view (r+6) 0 c.N),(13,.ptr (c.m+7) 0 0),(95,iv c.N),(96,iv k)],
      tT c { s with R:=R0.set r (addP o0 l2 f k) } [some ⟨4,[rsv inv],false⟩,some ⟨4,[rsv f],false⟩]⟩)
      (fun k=>k≤c.N) (fun k=>c.N - k) 0 (by simp) ?_ ?_
     ·rw [addP_zero]
      simp [leS,tT,tH,tS,leM_self,leF,Go.Sv.get]
     ·rintro k hk
      have adN:(addP o0 l2 f k).length=c.N:=by rw [addP_len,oN]
      have hRk:(R0.set r (addP o0 l2 f k)).length=c.m:=by rw [List.length_set,hRr]
      have tgo:=fun tl:Tab=>tget_rw (C:=R0.set r (addP o0 l2 f k)) (tl:=tl) (e:=r) (by rw [hRk];exact hrm)
      rw [show ∀y,gt (R0.set r y) r=y from fun y=>by rw [gt_set (by rw [hRr];exact hrm),if_pos rfl]] at tgo
      have tgi:=fun tl:Tab=>tget_rw (C:=R0.set r (addP o0 l2 f k)) (tl:=tl) (e:=i) (by rw [hRk];exact hi)
      rw [gi] at tgi
      by_cases hkN:k<c.N
      ·have lp:=lget_r (l:=l2) (i:=k) (by omega)
       have lo:=lget_r (l:=addP o0 l2 f k) (i:=k) (by omega)
       rw [gt_addP (by omega),if_neg (show ¬k<k by omega)] at lo
       have qp:=p3 k (by omega)
       have qok':=qo k hkN
       have ts:=fun tl:Tab=>tset_rw (C:=R0.set r (addP o0 l2 f k)) (tl:=tl) (e:=r) (r:=addP o0 l2 f (k+1)) (by rw [hRk];exact hrm)
       have asx:=addP_set (o:=o0) (l:=l2) (f:=f) (k:=k) (by omega)
       have ak:=addP_skip (o:=o0) (l:=l2) (f:=f) (k:=k) (by omega)
       rw [List.set_set,←asx] at ts
       have hR1:(R0.set r (addP o0 l2 f (k+1))).length=c.m:=by rw [List.length_set,hRr]
       generalize hA:addP o0 l2 f k=ad at *
       generalize hB:R0.set r ad=Rk at *
       clear hRr oN
       simp only [tT,tH,tS,List.cons_append,List.nil_append]
       simp (disch:=omega) [hkN,tgi,ptL,lp]
       repeat (refine And.intro (by omega) ?_)
       refine callS (qSign_ok _) (by simp) ?_
       simp (disch:=omega) [w64,Int.sign_eq_zero_iff_zero,Rat.num_eq_zero]
       repeat (refine And.intro (by omega) ?_)
       refine ⟨fun z2=>?_,fun z2=>?_⟩
       ·refine CodeJ.draw (.qs [0,1,2,3,4,5,6,7,8,9,10]<|.l 11 []<|.l 12 []<|.qs [13]<|.l 14 [r+6]<|.nil) (by kernel_rfl) (by kernel_rfl) (by simp) ?_
        simp (disch:=omega) [hkN,tgi,tgo,ptL,adN,lp,lo,hRk,tgA hRk,tgB hRk]
        repeat (refine And.intro (by omega) ?_)
        refine callS (qMul_ok _ _ (qok_of qf (by omega)) (qok_of qp (by omega))) (by simp) ?_
        simp (disch:=omega) [hkN,tgi,tgo,ptL,adN,lp,lo,hRk,tgA hRk,tgB hRk]
        repeat (refine And.intro (by omega) ?_)
        refine callS (qAdd_ok _ _ (qok_of qok' (by omega)) (qok_of (qw_mul qf qp (by omega)) (by omega))) (by simp) ?_
        simp (disch:=omega) [hkN,tgi,tgo,ptL,adN,lp,lo,hRk,tgA hRk,tgB hRk,lset_rat,ts,w64, -List.map_set]
        repeat (refine And.intro (by omega) ?_)
        refine ⟨k+1,by omega,by omega,?_⟩
        rw [asx]
        exact le_tT { s with R:=R0.set r (addP o0 l2 f (k+1)) } hR1 fx (by simp (disch:=omega) [leF,Go.Sv.get,w64]) (by simp [leM]) (by simp [ltF];omega) (by simp [ltM])
       ·refine ⟨k+1,by omega,by omega,?_⟩
        rw [ak z2,hB]
        exact le_tT { s with R:=Rk } hRk fx (by simp (disch:=omega) [leF,Go.Sv.get,w64]) (by simp [leM]) (by simp [ltF];omega) (by simp [ltM])
      ·obtain rfl:k=c.N:=by omega
       simp only [tT,tH,tS,List.cons_append,List.nil_append]
       simp (disch:=omega) []
       repeat (refine And.intro (by omega) ?_)
       refine ⟨r+1,by omega,by omega,?_⟩
       rw [nx]
       exact le_tT { s with R:=trR s i j (r+1) } (by rw [←nx];exact hRk) fx (by simp (disch:=omega) [leF,Go.Sv.get,w64]) (by simp [leM]) (by simp [ltF];omega) (by simp [ltM])
  ·obtain rfl:r=c.m:=by omega
   simp only [tT,tH,tS,List.cons_append,List.nil_append]
   simp (disch:=omega) [hRr]
   repeat (refine And.intro (by omega) ?_)
   exact ⟨rfl,by simp [leF,Go.Sv.get],leM_self _,.inl rfl⟩
theorem qTurn_ok (c:Tc) (s:Tb) (hc:TcL c) (h:TbL c s) {W:Nat} (h2:2≤W) (hW:∀i,i<c.m→Wd W (gt s.R i)) (hz:5*W≤10000000000) {i j:Nat} (hi:i<c.m) (hj:j<c.N) (hp:gt (gt s.R i) j≠0) :
  EffC Tryz.prog 128 [.ptr 0 0 0,iv i,iv j] (tT c s []) [] (fun T x=>T=tT c (turnT s i j) []∧x=.tup []):=by
 have h7:=hc.m7
 have h14:=hc.N14
 have hR:=h.R
 have hx:=h.x
 have hb:=h.b
 have hrow:=h.r
 have hwh:=h.w
 have lbi:=lget_nat (l:=s.basic) (i:=i) (by omega)
 have lyi:=lget_byV (N:=c.N) (m:=c.m) (i:=i) hi
 have bbi:=h.bb i hi
 have Ri:=h.Rr i hi
 have tg:=fun tl:Tab=>tget_rw (C:=s.R) (tl:=tl) (e:=i) (by omega)
 have lj:=lget_r (l:=gt s.R i) (i:=j) (by omega)
 have qj:=hW i hi j (by omega)
 have q1:qw 1 (1:Rat):=qw_int (k:=1) (x:=1) (fw_one (by omega)) (by omega)
 have qi:qw (1+W) (1 / gt (gt s.R i) j):=qw_div q1 qj (by omega)
 have nlN:(negP (gt s.R i) (1 / gt (gt s.R i) j) c.N).length=c.N:=by rw [negP_len,Ri]
 refine eff_enterC Tryz.func128 rfl (by simp) (fun C hC=>?_)
 have fx:=fx_lt hR hC
 show CodeJ _ _ turnBody _ (retH _ [] _ _)
 refine CodeJ.cutAt 5 (fun st=>st=⟨147,[(0,.ptr 0 0 0),(1,iv i),(2,iv j),(6,iv (gt s.basic i:Nat)),(7,.view (i+6) 0 c.N),(8,.ptr (c.m+6) 0 0)],
  tH c s++tset (rwT (s.R.set i (negP (gt s.R i) (1 / gt (gt s.R i) j) c.N))++[some ⟨4,[rsv (1 / gt (gt s.R i) j)],false⟩]) i (some ⟨4,lset ((negP (gt s.R i) (1 / gt (gt s.R i) j) c.N).map rsv) j (.agg [.val (.bool false),.val (.slice none 0 0),.val (.bool false),.val (.slice none 0 0)]),false⟩)⟩) ?_ ?_
 rotate_left 1
 ·rintro st rfl
  refine CodeJ.le (le_nlR (tl':=[some ⟨4,[rsv (1 / gt (gt s.R i) j)],false⟩]) (fr':=[(0,.ptr 0 0 0),(1,iv i),(2,iv j),(6,iv (gt s.basic i:Nat)),(7,.view (i+6) 0 c.N),(8,.ptr (c.m+6) 0 0)]) { s with R:=s.R.set i (negP (gt s.R i) (1 / gt (gt s.R i) j) c.N) } (by simpa using hR) hi fx (by simp [leF,Go.Sv.get]) (by simp [leM]) (by simp [ltF];omega) (by simp [ltM])) ?_
  simp only [List.set_set]
  exact turnB c s hc h h2 hW hz hi hj fx
 simp only [turnBody,Tryz.f128,Option.getD_some,takeC_succ,takeC_zero]
 simp only [tT,tH,tS,List.cons_append,List.nil_append]
 simp (disch:=omega) [lbi,lyi,hb]
 repeat (refine And.intro (by omega) ?_)
 refine CodeJ.drawZ (.d 9<|.qs [1,2,3,4]<|.p 0<|.p 5<|.qs [6,7,8]<|.b (.l 10 [c.m+6]<|.qs [11]<|.nil)) (by kernel_rfl) (by kernel_rfl) (by simp) ?_
 simp (disch:=omega) [hj,tg,lj,Ri]
 repeat (refine And.intro (by omega) ?_)
 refine callV (qInt_ok 1 (by omega) (by omega)) (by simp) ?_
 simp (disch:=omega) [hj,tg,lj,Ri,hR]
 repeat (refine And.intro (by omega) ?_)
 refine callV (qQuo_ok _ _ (qok_of q1 (by omega)) (qok_of qj (by omega))) (by simp) ?_
 simp (disch:=omega) [hR,tgA hR,tgB hR,tsA hR,tsB hR]
 repeat (refine And.intro (by omega) ?_)
 generalize hinv:1 / gt (gt s.R i) j=inv at *
 refine CodeJ.loopL (ι:=Nat) (fun k=>⟨147,[(0,.ptr 0 0 0),(1,iv i),(2,iv j),(6,iv (gt s.basic i:Nat)),(7,.view (i+6) 0 c.N),(8,.ptr (c.m+6) 0 0),(39,iv c.N),(40,iv k)],tT c { s with R:=s.R.set i (negP (gt s.R i) inv k) } [some ⟨4,[rsv inv],false⟩]⟩)
  (fun k=>k≤c.N) (fun k=>c.N - k) 0 (by simp) ?_ ?_
 ·rw [negP_zero]
  have e0:s.R.set i (gt s.R i)=s.R:=ext_gt' (by simp) fun x hx=>by
   rw [gt_set (by simpa using hx)]
   split
   ·rename_i e;rw [e]
   ·rfl
  rw [e0]
  simp [leS,tT,tH,tS,leM_self]
 ·rintro k hk
  have hR1:(s.R.set i (negP (gt s.R i) inv k)).length=c.m:=by simpa using hR
  have tgk:=fun tl:Tab=>tget_rw (C:=s.R.set i (negP (gt s.R i) inv k)) (tl:=tl) (e:=i) (by omega)
  rw [show gt (s.R.set i (negP (gt s.R i) inv k)) i=negP (gt s.R i) inv k by rw [gt_set (by omega),if_pos rfl]] at tgk
  have nl:(negP (gt s.R i) inv k).length=c.N:=by rw [negP_len,Ri]
  simp only [tT,tH,tS,List.cons_append,List.nil_append]
  by_cases hkN:k<c.N
  ·have lk:=lget_r (l:=negP (gt s.R i) inv k) (i:=k) (by omega)
   rw [gt_negP (by omega),if_neg (by omega)] at lk
   have qk:=hW i hi k (by omega)
   have ts:=fun tl:Tab=>tset_rw (C:=s.R.set i (negP (gt s.R i) inv k)) (tl:=tl) (e:=i) (r:=negP (gt s.R i) inv (k+1)) (by omega)
   rw [List.set_set,←negP_set (by omega)] at ts
   simp (disch:=omega) [hkN,tgk,nl,lk]
   repeat (refine And.intro (by omega) ?_)
   refine callS (qSign_ok (gt (gt s.R i) k)) (by simp) ?_
   simp (disch:=omega) [w64,Int.sign_eq_zero_iff_zero,Rat.num_eq_zero]
   repeat (refine And.intro (by omega) ?_)
   refine ⟨fun z=>?_,fun z=>?_⟩
   ·refine CodeJ.draw (.qs [0,1,2,3,4,5,6]<|.l 7 []<|.l 8 []<|.qs [9]<|.l 10 [i+6]<|.nil) (by kernel_rfl) (by kernel_rfl) (by simp) ?_
    simp (disch:=omega) [hkN,tgk,nl,lk,hR1,tgA hR1]
    repeat (refine And.intro (by omega) ?_)
    refine callS (qMul_ok _ _ (qok_of qk (by omega)) (qok_of qi (by omega))) (by simp) ?_
    simp (disch:=omega) [hkN,tgk,nl,lk,hR1,tgA hR1]
    repeat (refine And.intro (by omega) ?_)
    refine callS (qNeg_ok _) (by simp) ?_
    simp (disch:=omega) [hkN,tgk,nl,lk,hR1,tgA hR1,lset_rat,ts,w64, -List.map_set]
    repeat (refine And.intro (by omega) ?_)
    rw [negP_set (by omega)]
    exact ⟨k+1,by omega,by omega,le_tT { s with R:=s.R.set i (negP (gt s.R i) inv (k+1)) } (by simpa using hR) fx (by simp (disch:=omega) [leF,Go.Sv.get,w64]) (by simp [leM]) (by simp [ltF];omega) (by simp [ltM])⟩
   ·refine ⟨k+1,by omega,by omega,?_⟩
    rw [negP_skip (by omega) z]
    exact le_tT { s with R:=s.R.set i (negP (gt s.R i) inv k) } (by simpa using hR) fx (by simp (disch:=omega) [leF,Go.Sv.get,w64]) (by simp [leM]) (by simp [ltF];omega) (by simp [ltM])
  ·obtain rfl:k=c.N:=by omega
   have lk:=lget_r (l:=negP (gt s.R i) inv c.N) (i:=j) (by omega)
   simp (disch:=omega) [hR1,tgk,nl,lk]
   repeat (refine And.intro (by omega) ?_)
   exact ⟨rfl,by simp [leF,Go.Sv.get],leM_self _,.inl rfl⟩
end Go.Proofs

