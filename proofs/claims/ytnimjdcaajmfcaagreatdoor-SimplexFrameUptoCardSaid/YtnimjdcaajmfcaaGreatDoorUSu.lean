/- A text of the prover's own. -/
import Derived.Test.YtnimjdcaajmfcaaGreatDoorUSp
import Derived.Test.YtnimjdcaajmfcaaGreatDoorUSs
import Derived.Test.YtnimjdcaajmfcaaGreatDoorUKi
namespace Go.Sx
open Go Go.Sv Go.Pl Go.Proofs Go.Tb Go.Ut Go.Mx Go.Li Go.Dt
theorem gt_ap1 {α:Type} [Inhabited α] {a b:List α} {k:Nat} (h:k<a.length):gt (a++b) k=gt a k:=by
 simp only [gt,List.getD_eq_getElem?_getD];rw [List.getElem?_append_left h]
theorem gt_ap2 {α:Type} [Inhabited α] {a b:List α} {k:Nat} (h:a.length≤k):gt (a++b) k=gt b (k - a.length):=by
 simp only [gt,List.getD_eq_getElem?_getD];rw [List.getElem?_append_right h]
theorem gt_many {α:Type} [Inhabited α] {n i:Nat} {x:α} (h:i<n):gt (List.replicate n x) i=x:=by simp [gt,h]
def hasT (ts:List Term) (k:Nat):Bool:=ts.any fun t=>decide (t.col=(k:Int))
theorem asc_no {n:Nat}:∀{ts:List Term} {c:Int},badT n c ts=false→∀k:Nat,(k:Int)≤c→hasT ts k=false
 | [],_,_,_,_=>rfl
 | t::ts,c,h,k,hk=>by
  simp only [badT,Bool.or_eq_false_iff,decide_eq_false_iff_not] at h
  have:=asc_no h.2 k (by omega)
  simp only [hasT,List.any_cons,Bool.or_eq_false_iff,decide_eq_false_iff_not]
  exact ⟨by omega,this⟩
theorem asc_col {n:Nat}:∀{ts:List Term} {c:Int},badT n c ts=false → -1≤c→∀t∈ts,∃k:Nat,t.col=k∧k<n
 | t::ts,c,h,hc,x,hx=>by
  simp only [badT,Bool.or_eq_false_iff,decide_eq_false_iff_not] at h
  rcases List.mem_cons.1 hx with rfl | hx
  ·exact ⟨x.col.toNat,by omega,by omega⟩
  ·exact asc_col h.2 (by omega) x hx
theorem entT_none:∀{ts:List Term} {k:Nat},hasT ts k=false→entT ts k=0
 | [],_,_=>rfl
 | t::ts,k,h=>by
  simp only [hasT,List.any_cons,Bool.or_eq_false_iff,decide_eq_false_iff_not] at h
  unfold entT
  rw [if_neg h.1]
  exact entT_none h.2
theorem gt_rowL {n:Nat}:∀{ts:List Term} {c:Int} {l:List Rat} {k:Nat},badT n c ts=false → -1≤c→k<l.length→gt (rowL l ts) k=if hasT ts k=true then entT ts k else gt l k
 | [],_,l,k,_,_,_=>rfl
 | t::ts,c,l,k,h,hc,hk=>by
  simp only [badT,Bool.or_eq_false_iff,decide_eq_false_iff_not] at h
  unfold rowL
  rw [gt_rowL h.2 (by omega) (by simpa using hk),gt_set hk]
  by_cases e:t.col=(k:Int)
  ·have no:=asc_no h.2 k (by omega)
   rw [if_neg (by simp [no]),if_pos (by omega),if_pos (by simp [hasT,e])]
   unfold entT;rw [if_pos e]
  ·have e1:hasT (t::ts) k=hasT ts k:=by simp [hasT,e]
   have e2:entT (t::ts) k=entT ts k:=if_neg e
   rw [e1,e2,if_neg (show ¬t.col.toNat=k by omega)]
theorem gt_rowZ {p:Prob} {n N i k:Nat} (h:badT n (-1) (gt p.rows i).terms=false) (hk:k<N):gt (rowZ p N i) k=entT (gt p.rows i).terms k:=by
 unfold rowZ
 rw [gt_rowL h (by omega) (by simpa using hk)]
 split
 ·rfl
 ·rename_i e
  rw [entT_none (by simpa using e),gt_many hk]
theorem entT_out {n k:Nat} {ts:List Term} (h:badT n (-1) ts=false) (hk:n≤k):entT ts k=0:=by
 refine entT_none ?_
 unfold hasT
 rw [List.any_eq_false]
 intro t ht
 obtain ⟨j,e,hj⟩:=asc_col h (by omega) t ht
 simp only [decide_eq_true_eq]
 omega
def frE (p:Prob) (n m N:Nat):Tb:={ frB p n m N with x:=rkX (frB p n m N) N m }
theorem gt_bas {n m i:Nat} (h:i<m):gt (basR n m) i=n+i:=by unfold basR;rw [gt_range _ h]
theorem gt_rows {p:Prob} {N m i:Nat} (h:i<m):gt (rowsZ p N m) i=rowZ p N i:=by unfold rowsZ;rw [gt_range _ h]
theorem fr_tb {p:Prob} {n m N:Nat} (hN:n+m=N):TbL (frC p n m N) (frB p n m N) where
 w:=by simp [frB,frC]
 x:=by simp [frB,frC]
 b:=by simp [frB,frC,basR]
 r:=by simp [frB,frC]
 R:=by simp [frB,frC]
 Rr i hi:=by
  replace hi:i<m:=hi
  show (gt (rowsZ p N m) i).length=N
  rw [gt_rows hi];simp [rowZ]
 bb i hi:=by
  replace hi:i<m:=hi
  show gt (basR n m) i<N
  rw [gt_bas hi];omega
theorem fr_dic {p:Prob} {n m N:Nat} (hN:n+m=N) (hb:∀i,i<m→badT n (-1) (gt p.rows i).terms=false):Dic (Kp p n m) N m (basR n m) (rowsZ p N m) where
 bl i hi:=by rw [gt_bas hi];omega
 inj i k hi hk e:=by rw [gt_bas hi,gt_bas hk] at e;omega
 z0 r i hr hi:=by rw [gt_bas hi,gt_rows hr,gt_rowZ (hb r hr) (by omega),entT_out (hb r hr) (by omega)]
 sat z:=by
  have e:∀r,r<m→sumR (fun k=>gt (gt (rowsZ p N m) r) k*z k) N=sumR (fun k=>entT (gt p.rows r).terms k*z k) n:=fun r hr=>by
   rw [gt_rows hr,sumR_congr (g:=fun k=>entT (gt p.rows r).terms k*z k) N (fun k hk=>by rw [gt_rowZ (hb r hr) hk])]
   exact sumR_cut N (by omega) fun k h1 _=>by rw [entT_out (hb r hr) h1,Rat.zero_mul]
  constructor
  ·intro hz r hr;rw [gt_bas hr,e r hr];exact hz r hr
  ·intro hz r hr
   have:=hz r hr
   rw [gt_bas hr,e r hr] at this
   exact this
theorem fr_row {p:Prob} {n m N:Nat} (hN:n+m=N):RowOK (frC p n m N) (frB p n m N):=fun k hk=>by
 replace hk:k<N:=hk
 have e:gt (frB p n m N).row k=rF n k:=by show gt (ups N N (rF n) 0) k=_;rw [gt_ups hk,if_pos hk]
 rw [e]
 unfold rF
 by_cases h:k<n
 ·rw [if_pos h]
  refine .inr ⟨rfl,fun i hi=>?_⟩
  replace hi:i<m:=hi
  show gt (basR n m) i≠k
  rw [gt_bas hi];omega
 ·rw [if_neg h]
  refine .inl ⟨k - n,show k - n<m by omega,?_,by omega⟩
  show gt (basR n m) (k - n)=k
  rw [gt_bas (by omega)];omega
theorem fr_wd {p:Prob} {n m N:Nat} (hm:p.rows.length=m) (hw:ProbW p) (hb:∀i,i<m→badT n (-1) (gt p.rows i).terms=false):∀i,i<m→Wd 2200 (gt (rowsZ p N m) i):=fun i hi k hk=>by
 rw [gt_rows hi] at hk ⊢
 rw [gt_rowZ (hb i hi) (by simpa [rowZ] using hk)]
 exact qw_entT (by omega) fun q hq=>hw.te i (by omega) q hq
theorem fr_set {p:Prob} {n m N:Nat} (hN:n+m=N) (hm:p.rows.length=m) (hw:ProbW p) (hb:∀i,i<m→badT n (-1) (gt p.rows i).terms=false) (w:List Int):SetI (frC p n m N) (Kp p n m) w (frE p n m N) 0 where
 t:=by
  have t:=fr_tb (p:=p) hN
  exact ⟨t.w,by show (rkX (frB p n m N) N m).length=N;rw [rkX_len];exact t.x,t.b,t.r,t.R,t.Rr,t.bb⟩
 d:=fr_dic hN hb
 r:=fr_row hN
 a k hk:=by omega
 w:=⟨0,Nat.le_refl _,fun i hi=>by
  have:=fr_wd (N:=N) hm hw hb i hi
  rw [Nat.pow_zero,Nat.mul_one]
  exact this⟩
theorem fr_len {p:Prob} {n m N:Nat} (hn:p.cols.length=n) (hm:p.rows.length=m) (hN:n+m=N) (h14:N≤14) (h7:m≤7):TcL (frC p n m N) where
 m7:=h7
 N14:=h14
 lo:=by show (lowR p m).length=N;simp [lowR,lowC,hn,hm,hN]
 hi:=by show (highR p m).length=N;simp [highR,highC,hn,hm,hN]
 co:=by show (ups N n (fcC p) 0).length=N;simp
theorem gt_lowR {p:Prob} {n m k:Nat} (hn:p.cols.length=n) (hm:p.rows.length=m) (hk:k<n+m):gt (lowR p m) k=if k<n then (gt p.cols k).low else (gt p.rows (k - n)).low:=by
 unfold lowR lowC
 by_cases h:k<n
 ·rw [if_pos h,gt_ap1 (by simp [hn,h]),gt_map _ (by omega)]
 ·rw [if_neg h,gt_ap2 (by simp [hn];omega),List.take_of_length_le (by omega),gt_map _ (by simp [hn];omega)]
  simp [hn]
theorem gt_highR {p:Prob} {n m k:Nat} (hn:p.cols.length=n) (hm:p.rows.length=m) (hk:k<n+m):gt (highR p m) k=if k<n then (gt p.cols k).high else (gt p.rows (k - n)).high:=by
 unfold highR highC
 by_cases h:k<n
 ·rw [if_pos h,gt_ap1 (by simp [hn,h]),gt_map _ (by omega)]
 ·rw [if_neg h,gt_ap2 (by simp [hn];omega),List.take_of_length_le (by omega),gt_map _ (by simp [hn];omega)]
  simp [hn]
theorem fr_bw {p:Prob} {n m N:Nat} (hn:p.cols.length=n) (hm:p.rows.length=m) (hN:n+m=N) (hw:ProbW p):TcW (frC p n m N) where
 lo k hk:=by
  replace hk:k<N:=hk
  show qw 2200 (gt (lowR p m) k).at'
  rw [gt_lowR hn hm (by omega)]
  split
  ·exact (hw.co k (by omega)).2.1
  ·exact (hw.ro _ (by omega)).1
 hi k hk:=by
  replace hk:k<N:=hk
  show qw 2200 (gt (highR p m) k).at'
  rw [gt_highR hn hm (by omega)]
  split
  ·exact (hw.co k (by omega)).2.2
  ·exact (hw.ro _ (by omega)).2
def cstP (p:Prob) (n k:Nat):Rat:=if k<n then (gt p.cols k).cost else 0
theorem fr_cost {p:Prob} {n m N:Nat} {k:Nat} (hk:k<N):gt (frC p n m N).cost k=if p.max=true then -cstP p n k else cstP p n k:=by
 show gt (ups N n (fcC p) 0) k=_
 rw [gt_ups hk]
 unfold fcC cstP
 by_cases h:k<n
 ·simp only [if_pos h]
 ·simp only [if_neg h];split<;>rfl
end Go.Sx
set_option maxRecDepth 10000
namespace Go.Proofs
open Go.Sv Go Go.Tb Go.Pl Go.Ut Go.Mx Go.Li Go.Dt Go.Sx
theorem qFresh_ok (p:Prob) (n m N:Nat) (hn:p.cols.length=n) (hm:p.rows.length=m) (hN:n+m=N) (h14:N≤14) (h7:m≤7) (hw:ProbW p) (htl:∀i,i<m→(gt p.rows i).terms.length≤1000000) (hb:∀i,i<m→badT n (-1) (gt p.rows i).terms=false) :
  EffC Tryz.prog 77 [.rop (probQ p) 0] [] [] (fun T y=>T=tT (frC p n m N) (frE p n m N) []∧y=.ptr 0 0 0):=by
 refine eff_enterC Tryz.func77 rfl (by simp) (fun C hC=>?_)
 have hC:C.fx=[]:=by simpa using hC
 show CodeJ _ _ freshBody _ (retH Tryz.prog [.tmp 2] _ _)
 refine freshA p n m N hn hm hN h14 hC (fun c st h=>h) ?_
 refine freshB p n m N hn hN h14 hC (fun c st h=>h) ?_
 rw [fB_fR p n m N hn]
 refine freshC p n m N hn hm hN h14 (fun i hi t ht=>?_) htl hC (fun c st h=>h) ?_
 ·obtain ⟨k,e,hk⟩:=asc_col (hb i hi) (by omega) t ht
  exact ⟨k,e,by omega⟩
 refine CodeJ.le ((le_fz4 p n m N hn hm hN).trans ((le_fz5 p n m N hn hm hN).trans ((le_fz6 p n m N hn hm hN).trans (le_fzT p n m N hC)))) ?_
 have hR:(frB p n m N).R.length=m:=by simp [frB]
 have tb:=fr_tb (p:=p) hN
 have fw:=fr_wd (N:=N) hm hw hb
 have rk:=qReckon_ok (frC p n m N) (frB p n m N) (fr_len hn hm hN h14 h7) tb (W:=2200) (V:=2200) (by omega) (fun i j hi hj=>fw i hi j (by have:=tb.Rr i hi;show j<(gt (frB p n m N).R i).length;rw [this];exact hj)) (fun i k hi hk hz=>by
  replace hi:i<m:=hi
  replace hk:k<N:=hk
  have hkn:k<n:=by
   apply Classical.byContradiction
   intro hc
   apply hz
   show gt (gt (rowsZ p N m) i) k=0
   rw [gt_rows hi,gt_rowZ (hb i hi) hk,entT_out (hb i hi) (by omega)]
  rw [rk_other tb hk (fun q hq e=>by
   replace hq:q<m:=hq
   have:gt (basR n m) q=k:=e
   rw [gt_bas hq] at this;omega) i (Nat.le_of_lt hi)]
  show qw 2200 (gt (ups N n (rsX p) 0) k)
  rw [gt_ups hk,if_pos hkn]
  unfold rsX
  split
  ·exact (hw.co k (by omega)).2.1
  ·split
   ·exact (hw.co k (by omega)).2.2
   ·exact Proofs.qw_zero (by omega)) (by show 1+N*_≤_;omega)
 simp only [freshBody,Tryz.f77,Option.getD_some,dropC_succ,dropC_zero]
 refine CodeJ.go ?_
 have eT:tT (frC p n m N) (frB p n m N) []=tH (frC p n m N) (frB p n m N)++rwT (frB p n m N).R:=by simp [tT]
 rw [eT]
 generalize hc:frC p n m N=c at *
 generalize hs:frB p n m N=s at *
 have hcm:c.m=m:=by rw [←hc];rfl
 simp
 refine callTb (s:=s) rk (by rw [hR,hcm]) (by simp) (by simp) ?_
 rintro T1 y ⟨rfl,rfl⟩
 refine ⟨_,rfl,by rw [hcm];exact hR,by simp,?_⟩
 simp only [tH,tS,List.cons_append,List.nil_append]
 simp
 refine ⟨_,_,⟨rfl,rfl⟩,rfl,?_,.inl ?_⟩
 ·subst hc hs
  show leM _ (tT (frC p n m N) (frE p n m N) [])
  rw [tT,List.append_nil];exact leM_self _
 ·subst hc hs
  simp [tT,tH,frE,frC]
end Go.Proofs

