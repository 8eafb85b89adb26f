/- A text of the prover's own. -/
import Derived.Test.YtnimjdcaajmfcaaGreatDoorUSc
namespace Go.Sx
open Go Go.Sv Go.Pl Go.Proofs Go.Tb Go.Ut Go.Mx Go.Li Go.Dt
structure Dic (K:(Nat→Rat)→Prop) (N m:Nat) (basic:List Nat) (R:List (List Rat)):Prop where
 bl:∀i,i<m→gt basic i<N
 inj:∀i k,i<m→k<m→gt basic i=gt basic k→i=k
 z0:∀r i,r<m→i<m→gt (gt R r) (gt basic i)=0
 sat:∀z,K z↔∀r,r<m→z (gt basic r)=sumR (fun k=>gt (gt R r) k*z k) N
theorem sum_piv {l:List Rat} {N j out:Nat} (hl:l.length=N) (hj:j<N) (ho:out<N) (hz:gt l out=0) (hp:gt l j≠0) (z:Nat→Rat) :
  sumR (fun k=>gt (pivL l j out) k*z k) N=1 / gt l j*(z out - sumR (fun k=>gt l k*z k) N)+z j:=by
 have hne:out≠j:=fun e=>hp (by rw [←e];exact hz)
 have e1:sumR (fun k=>gt (pivL l j out) k*z k) N=sumR (fun k=>1 / gt l j*((if k=out then z out else 0) - gt l k*z k)+1 / gt l j*(if k=j then gt l j*z j else 0)) N:=sumR_congr N fun k hk=>by
  rw [gt_pivL (by omega)]
  by_cases q1:out=k
  ·subst q1
   rw [if_pos rfl,if_pos rfl,if_neg hne,hz];grind
  ·have a1:¬k=out:=fun q=>q1 q.symm
   by_cases q2:j=k
   ·subst q2
    simp only [if_neg q1,if_neg a1,if_true];grind
   ·have a2:¬k=j:=fun q=>q2 q.symm
    simp only [if_neg q1,if_neg a1,if_neg q2,if_neg a2];grind
 rw [e1,sumR_add,sumR_mul,sumR_mul,sumR_sub,sumR_one (p:=out) N ho (fun k _ hk=>if_neg hk),sumR_one (p:=j) N hj (fun k _ hk=>if_neg hk),if_pos rfl,if_pos rfl]
 have e2:1 / gt l j*(gt l j*z j)=z j:=by
  rw [←Rat.mul_assoc,Rat.div_mul_cancel hp,Rat.one_mul]
 rw [e2]
theorem sum_elm {o l:List Rat} {N j:Nat} (ho:o.length=N) (hj:j<N) (z:Nat→Rat) :
  sumR (fun k=>gt (elmL o l j) k*z k) N=sumR (fun k=>gt o k*z k) N - gt o j*z j+gt o j*sumR (fun k=>gt l k*z k) N:=by
 have e1:sumR (fun k=>gt (elmL o l j) k*z k) N=sumR (fun k=>(gt o k*z k - (if k=j then gt o j*z j else 0))+gt o j*(gt l k*z k)) N:=sumR_congr N fun k hk=>by
  rw [gt_elmL (by omega)]
  by_cases q:j=k
  ·subst q;rw [if_pos rfl,if_pos rfl];grind
  ·rw [if_neg q,if_neg (fun q'=>q q'.symm)];grind
 rw [e1,sumR_add,sumR_sub,sumR_mul,sumR_one (p:=j) N hj (fun k _ hk=>if_neg hk),if_pos rfl]
theorem Dic.turn {K:(Nat→Rat)→Prop} {N m:Nat} {s:Tb} (h:Dic K N m s.basic s.R) (hb:s.basic.length=m) (hR:s.R.length=m) (hr:∀r,r<m→(gt s.R r).length=N) {i j:Nat} (hi:i<m) (hj:j<N) (hp:gt (gt s.R i) j≠0) :
  Dic K N m (turnT s i j).basic (turnT s i j).R:=by
 have hzi:=h.z0 i i hi hi
 have ho:=h.bl i hi
 have hnj:∀k,k<m→gt s.basic k≠j:=fun k hk e=>hp (by rw [←e];exact h.z0 i k hi hk)
 have gb:∀k,k<m→gt (turnT s i j).basic k=if i=k then j else gt s.basic k:=fun k hk=>by
  show gt (s.basic.set i j) k=_
  rw [gt_set (by omega)]
 have gR:∀r,r<m→gt (turnT s i j).R r=if r=i then pivL (gt s.R i) j (gt s.basic i) else elmL (gt s.R r) (pivL (gt s.R i) j (gt s.basic i)) j:=fun r hr'=>by
  show gt (trR s i j s.R.length) r=_
  rw [gt_trR (by omega)];unfold trF
  split
  ·rfl
  ·rw [if_pos (by omega)]
 have bo:∀k,k<m→k≠i→gt s.basic i≠gt s.basic k:=fun k hk hki e=>hki (h.inj i k hi hk e).symm
 have pz:∀k,k<m→gt (pivL (gt s.R i) j (gt s.basic i)) (if i=k then j else gt s.basic k)=0:=fun k hk=>by
  have hk':=h.bl k hk
  by_cases e:i=k
  ·rw [if_pos e,gt_pivL (by rw [hr i hi];exact hj),if_neg (hnj i hi),if_pos rfl]
  ·rw [if_neg e,gt_pivL (by rw [hr i hi];exact hk'),if_neg (bo k hk (fun q=>e q.symm)),if_neg (fun q=>hnj k hk q.symm),h.z0 i k hi hk];grind
 refine ⟨fun k hk=>?_,fun k k' hk hk' e=>?_,fun r k hr' hk=>?_,fun z=>?_⟩
 ·rw [gb k hk];split
  ·exact hj
  ·exact h.bl k hk
 ·rw [gb k hk,gb k' hk'] at e
  by_cases e1:i=k
  ·rw [if_pos e1] at e
   by_cases e2:i=k'
   ·omega
   ·rw [if_neg e2] at e;exact absurd e.symm (hnj k' hk')
  ·rw [if_neg e1] at e
   by_cases e2:i=k'
   ·rw [if_pos e2] at e;exact absurd e (hnj k hk)
   ·rw [if_neg e2] at e;exact h.inj k k' hk hk' e
 ·rw [gb k hk,gR r hr']
  split
  ·exact pz k hk
  ·have hk':=h.bl k hk
   rw [gt_elmL (by rw [hr r hr'];split;exact hj;exact hk'),pz k hk]
   by_cases e:i=k
   ·rw [if_pos e,if_pos rfl];grind
   ·rw [if_neg e,if_neg (fun q=>hnj k hk q.symm),h.z0 r k hr' hk];grind
 ·have sp:=sum_piv (hr i hi) hj ho hzi hp z
  have inv1:1 / gt (gt s.R i) j≠0:=fun e=>by
   have:1 / gt (gt s.R i) j*gt (gt s.R i) j=1:=Rat.div_mul_cancel hp
   rw [e] at this;grind
  rw [h.sat z]
  constructor
  ·intro hs r hr'
   have hsi:=hs i hi
   rw [gb r hr',gR r hr']
   by_cases e:r=i
   ·rw [if_pos e.symm,if_pos e,sp,hsi];grind
   ·rw [if_neg (fun q=>e q.symm),if_neg e,sum_elm (hr r hr') hj z,sp,hsi,hs r hr'];grind
  ·intro hs
   have hsi:=hs i hi
   rw [gb i hi,gR i hi,if_pos rfl,if_pos rfl,sp] at hsi
   have hi0:z (gt s.basic i)=sumR (fun k=>gt (gt s.R i) k*z k) N:=by
    have:1 / gt (gt s.R i) j*(z (gt s.basic i) - sumR (fun k=>gt (gt s.R i) k*z k) N)=0:=by grind
    rcases Rat.mul_eq_zero.1 this with q | q
    ·exact absurd q inv1
    ·grind
   intro r hr'
   by_cases e:r=i
   ·rw [e];exact hi0
   ·have h1:=hs r hr'
    rw [gb r hr',gR r hr',if_neg (fun q=>e q.symm),if_neg e,sum_elm (hr r hr') hj z,sp,hi0] at h1
    rw [h1];grind
end Go.Sx
set_option maxRecDepth 10000
namespace Go.Sx
open Go Go.Sv Go.Pl Go.Proofs Go.Tb Go.Ut Go.Mx Go.Li Go.Dt
def redC (c:Tc) (s:Tb) (j i:Nat):Rat:=gt c.cost j+sumR (fun i=>gt c.cost (gt s.basic i)*gt (gt s.R i) j) i
theorem redC_zero (c:Tc) (s:Tb) (j:Nat):redC c s j 0=gt c.cost j:=by unfold redC;simp only [sumR];grind
theorem redC_succ (c:Tc) (s:Tb) (j i:Nat):redC c s j (i+1)=redC c s j i+gt c.cost (gt s.basic i)*gt (gt s.R i) j:=by unfold redC;simp only [sumR];grind
theorem qw_redC {c:Tc} {s:Tb} {j W V:Nat} (hj:Proofs.qw V (gt c.cost j)):∀i,(∀k,k<i→Proofs.qw V (gt c.cost (gt s.basic k))∧Proofs.qw W (gt (gt s.R k) j))→1≤V→Proofs.qw (V+i*(W+V+1)) (redC c s j i)
 | 0,_,_=>by rw [redC_zero];exact qw_mono hj (by omega)
 | i+1,h,h1=>by
  rw [redC_succ]
  have hi:=h i (by omega)
  refine qw_mono (qw_add (qw_redC hj i (fun k hk=>h k (by omega)) h1) (qw_mul hi.1 hi.2 (by omega))) ?_
  rw [Nat.add_mul];omega
end Go.Sx
namespace Go.Proofs
open Go.Sv Go Go.Tb Go.Pl Go.Ut Go.Mx Go.Li Go.Dt Go.Sx
theorem qReducedC_ok (c:Tc) (s:Tb) (hc:TcL c) (h:TbL c s) {W V:Nat} (hW:∀i,i<c.m→Wd W (gt s.R i)) (hV:Wd V c.cost) (h1:1≤V) (hz:V+7*(W+V+1)≤10000000000) {j:Nat} (hj:j<c.N) :
  EffC Tryz.prog 85 [.ptr 0 0 0,iv j] (tT c s []) [] (fun T x=>T=tT c s []∧x=rsv (redC c s j c.m)):=by
 have h7:=hc.m7
 have h14:=hc.N14
 have hco:=hc.co
 have hR:=h.R
 have hb:=h.b
 have lc:=lget_r (l:=c.cost) (i:=j) (by omega)
 refine eff_enter Tryz.func85 rfl (by simp) (fun C hC=>?_)
 have fx:=fx_lt hR hC
 simp only [tT,tH,tS,List.cons_append,List.nil_append]
 simp (disch:=omega) [hco,lc,hj,hR,tgA hR,tgB hR,tsA hR,tsB hR]
 repeat (refine And.intro (by omega) ?_)
 refine CodeJ.loopL (ι:=Nat) (fun i=>⟨53,[(0,.ptr 0 0 0),(1,iv j),(4,.ptr (c.m+6) 0 0),(5,.ptr (c.m+7) 0 0),(18,.view 5 0 c.m),(19,iv c.m),(20,iv i)],
  tT c s [some ⟨4,[.agg [.val (.bool false),.val (.slice none 0 0),.val (.bool false),.val (.slice none 0 0)]],false⟩,some ⟨4,[rsv (redC c s j i)],false⟩]⟩)
  (fun i=>i≤c.m) (fun i=>c.m - i) 0 (by simp) ?_ ?_
 ·rw [redC_zero]
  exact ⟨rfl,by simp [leF,Go.Sv.get],leM_self _,.inl rfl⟩
 ·rintro i hi
  by_cases him:i<c.m
  ·have lyi:=lget_byV (N:=c.N) (m:=c.m) (i:=i) him
   have tg:=fun tl:Tab=>tget_rw (C:=s.R) (tl:=tl) (e:=i) (by omega)
   have Ri:=h.Rr i him
   have lj:=lget_r (l:=gt s.R i) (i:=j) (by omega)
   have lbi:=lget_nat (l:=s.basic) (i:=i) (by omega)
   have bbi:=h.bb i him
   have lcb:=lget_r (l:=c.cost) (i:=gt s.basic i) (by omega)
   have q1:=hW i him j (by omega)
   have q2:=hV (gt s.basic i) (by omega)
   have q3:=qw_redC (hV j (by omega)) i (fun k hk=>⟨hV (gt s.basic k) (by have:=h.bb k (by omega);omega),hW k (by omega) j (by have:=h.Rr k (by omega);omega)⟩) h1
   have q4:V+i*(W+V+1)≤V+7*(W+V+1):=by
    have:=Nat.mul_le_mul_right (W+V+1) (show i≤7 by omega)
    omega
   have nx:=redC_succ c s j i
   generalize redC c s j i=d at *
   simp only [tT,tH,tS,List.cons_append,List.nil_append]
   simp (disch:=omega) [him,lyi,tg,lj,Ri,hj]
   repeat (refine And.intro (by omega) ?_)
   refine callS (qSign_ok (gt (gt s.R i) j)) (by simp) ?_
   simp (disch:=omega) [w64,Int.sign_eq_zero_iff_zero,Rat.num_eq_zero]
   repeat (refine And.intro (by omega) ?_)
   refine ⟨fun z=>?_,fun z=>?_⟩
   ·refine CodeJ.draw (.qs [0,1,2,3,4,5,6,7,8,9,10,11,12,13,14,15,16,17]<|.l 18 []<|.l 19 []<|.l 20 [c.m+7]<|.nil) (by kernel_rfl) (by kernel_rfl) (by simp) ?_
    simp (disch:=omega) [him,tg,lj,Ri,hj,hco,hb,lbi,bbi,lcb,hR,tgA hR,tgB hR,tsA hR,tsB hR]
    repeat (refine And.intro (by omega) ?_)
    refine callS (qMul_ok _ _ (qok_of q2 (by omega)) (qok_of q1 (by omega))) (by simp) ?_
    simp (disch:=omega) [hR,tgA hR,tgB hR,tsA hR,tsB hR]
    repeat (refine And.intro (by omega) ?_)
    refine callS (qAdd_ok _ _ (qok_of q3 (by omega)) (qok_of (qw_mul q2 q1 (by omega)) (by omega))) (by simp) ?_
    simp (disch:=omega) [hR,tgA hR,tgB hR,tsA hR,tsB hR,w64]
    repeat (refine And.intro (by omega) ?_)
    refine ⟨i+1,by omega,by omega,?_⟩
    rw [nx]
    exact le_tT s hR fx (by simp (disch:=omega) [leF,Go.Sv.get,w64]) (by simp [leM]) (by simp [ltF]) (by simp [ltM])
   ·refine ⟨i+1,by omega,by omega,?_⟩
    rw [nx,z,Rat.mul_zero,Rat.add_zero]
    exact le_tT s hR fx (by simp (disch:=omega) [leF,Go.Sv.get,w64]) (by simp [leM]) (by simp [ltF]) (by simp [ltM])
  ·obtain rfl:i=c.m:=by omega
   simp only [tT,tH,tS,List.cons_append,List.nil_append]
   simp (disch:=omega) [hR,tgA hR,tgB hR,tsA hR,tsB hR]
   repeat (refine And.intro (by omega) ?_)
   exact ⟨_,_,⟨rfl,rfl⟩,rfl,leM_tT c s _,by simp [hR],.inr ⟨by simp,ltM_tT (c:=c) (s:=s) hR⟩⟩
end Go.Proofs
namespace Go.Sx
open Go Go.Sv Go.Pl Go.Proofs Go.Tb Go.Ut Go.Mx Go.Li Go.Dt
def fit (c:Tc) (w:List Int) (k:Nat):Prop:=gt w k=1∨(gt w k=2∧(gt c.low k).has=true)∨(gt w k=3∧(gt c.high k).has=true)∨(gt w k=0∧(gt c.low k).has=false∧(gt c.high k).has=false)
def cnt (w:List Int):Nat→Nat
 | 0=>0
 | k+1=>cnt w k+if gt w k=1 then 1 else 0
theorem cnt_mono {w:List Int}:∀{j k:Nat},j≤k→cnt w j≤cnt w k
 | j,0,h=>by
         obtain rfl:j=0:=by omega
         exact Nat.le_refl _
 | j,k+1,h=>by
  by_cases e:j=k+1
  ·rw [e];exact Nat.le_refl _
  ·have:=cnt_mono (w:=w) (show j≤k by omega)
   simp only [cnt];omega
theorem cnt_le (w:List Int):∀k,cnt w k≤k
 | 0=>Nat.le_refl _
 | k+1=>by have:=cnt_le w k;simp only [cnt];split<;>omega
structure IsB (c:Tc) (K:(Nat→Rat)→Prop) (w:List Int):Prop where
 l:w.length=c.N
 f:∀k,k<c.N→fit c w k
 n:cnt w c.N=c.m
 k:∀z,K z→(∀k,k<c.N→gt w k≠1→z k=0)→∀k,k<c.N→z k=0
def RowOK (c:Tc) (s:Tb):Prop:=∀k,k<c.N→(∃i,i<c.m∧gt s.basic i=k∧gt s.row k=(i:Int))∨(gt s.row k = -1∧∀i,i<c.m→gt s.basic i≠k)
theorem RowOK.turn {c:Tc} {K:(Nat→Rat)→Prop} {s:Tb} (h:RowOK c s) (d:Dic K c.N c.m s.basic s.R) (t:TbL c s) {i j:Nat} (hi:i<c.m) (hj:j<c.N) (hp:gt (gt s.R i) j≠0):RowOK c (turnT s i j):=fun k hk=>by
 have hb:=t.b
 have hr:=t.r
 have ho:=d.bl i hi
 have hnj:∀k,k<c.m→gt s.basic k≠j:=fun k hk e=>hp (by rw [←e];exact d.z0 i k hi hk)
 have gb:∀k,k<c.m→gt (turnT s i j).basic k=if i=k then j else gt s.basic k:=fun k hk=>by
  show gt (s.basic.set i j) k=_
  rw [gt_set (by omega)]
 have gr:gt (turnT s i j).row k=if gt s.basic i=k then -1 else if j=k then (i:Int) else gt s.row k:=by
  show gt ((s.row.set j i).set (gt s.basic i) (-1)) k=_
  rw [gt_set (by simp;omega),gt_set (by omega)]
 by_cases e1:j=k
 ·subst e1
  refine .inl ⟨i,hi,by rw [gb i hi,if_pos rfl],by rw [gr,if_neg (hnj i hi),if_pos rfl]⟩
 ·by_cases e2:gt s.basic i=k
  ·refine .inr ⟨by rw [gr,if_pos e2],fun q hq=>?_⟩
   rw [gb q hq]
   split
   ·exact e1
   ·rename_i e3;exact fun e=>e3 (d.inj i q hi hq (by rw [e2,e]))
  ·rcases h k hk with ⟨q,hq,g1,g2⟩ | ⟨g1,g2⟩
   ·refine .inl ⟨q,hq,?_,by rw [gr,if_neg e2,if_neg e1,g2]⟩
    rw [gb q hq,if_neg (fun e=>e2 (by rw [e];exact g1)),g1]
   ·refine .inr ⟨by rw [gr,if_neg e2,if_neg e1,g1],fun q hq=>?_⟩
    rw [gb q hq];split
    ·exact e1
    ·exact g2 q hq
theorem TbL.turn {c:Tc} {s:Tb} (t:TbL c s) {i j:Nat} (hj:j<c.N):TbL c (turnT s i j) where
 w:=by show (s.wh.set j 1).length=_;rw [List.length_set,t.w]
 x:=t.x
 b:=by show (s.basic.set i j).length=_;rw [List.length_set,t.b]
 r:=by show ((s.row.set j i).set (gt s.basic i) (-1)).length=_;rw [List.length_set,List.length_set,t.r]
 R:=by show (trR s i j s.R.length).length=_;rw [trR_len,t.R]
 Rr k hk:=by
  show (gt (trR s i j s.R.length) k).length=_
  rw [gt_trR (by rw [t.R];exact hk)];unfold trF
  split
  ·rename_i e;rw [pivL_len,←e,t.Rr k hk]
  ·split
   ·rw [elmL_len,t.Rr k hk]
   ·exact t.Rr k hk
 bb k hk:=by
  show gt (s.basic.set i j) k<_
  rw [gt_set (by rw [t.b];exact hk)]
  split
  ·exact hj
  ·exact t.bb k hk
theorem turn_wd {c:Tc} {s:Tb} (t:TbL c s) {W:Nat} (h2:2≤W) (hW:∀i,i<c.m→Wd W (gt s.R i)) {i j:Nat} (hi:i<c.m) (hj:j<c.N):∀k,k<c.m→Wd (5*W) (gt (turnT s i j).R k):=fun k hk=>by
 have p:=pivL_wd (out:=gt s.basic i) h2 (hW i hi) (show j<(gt s.R i).length by rw [t.Rr i hi];exact hj)
 show Wd (5*W) (gt (trR s i j s.R.length) k)
 rw [gt_trR (by rw [t.R];exact hk)];unfold trF
 split
 ·exact fun x hx=>qw_mono (p x hx) (by omega)
 ·rw [if_pos (by rw [t.R];exact hk)]
  intro x hx
  have hx':x<(gt s.R k).length:=by simpa using hx
  have hl:=t.Rr k hk
  rw [gt_elmL hx']
  have q1:qw W (if j=x then (0:Rat) else gt (gt s.R k) x):=by
   split
   ·exact qw_mono (qw_int (k:=1) (x:=0) (fw_zero _) (by omega)) (by omega)
   ·exact hW k hk x hx'
  have q2:=hW k hk j (by omega)
  have q3:=p x (by rw [pivL_len,t.Rr i hi];omega)
  exact qw_mono (qw_add q1 (qw_mul q2 q3 (by omega))) (by omega)
structure SetI (c:Tc) (K:(Nat→Rat)→Prop) (w:List Int) (s:Tb) (j:Nat):Prop where
 t:TbL c s
 d:Dic K c.N c.m s.basic s.R
 r:RowOK c s
 a:∀k,k<j→gt w k=1→∃i,i<c.m∧gt s.basic i=k
 w:∃t,t≤cnt w j∧∀i,i<c.m→Wd (2200*5^t) (gt s.R i)
theorem SetI.skip {c:Tc} {K:(Nat→Rat)→Prop} {w:List Int} {s:Tb} {j:Nat} (h:SetI c K w s j) (hj:j<c.N) (hs:gt w j≠1∨0≤gt s.row j):SetI c K w s (j+1) where
 t:=h.t
 d:=h.d
 r:=h.r
 a k hk hw:=by
  by_cases e:k=j
  ·subst e
   rcases h.r k hj with ⟨i,hi,g1,g2⟩ | ⟨g1,g2⟩
   ·exact ⟨i,hi,g1⟩
   ·rcases hs with q | q
    ·exact absurd hw q
    ·omega
  ·exact h.a k (by omega) hw
 w:=by
  obtain ⟨t,h1,h2⟩:=h.w
  exact ⟨t,Nat.le_trans h1 (cnt_mono (by omega)),h2⟩
theorem SetI.turn {c:Tc} {K:(Nat→Rat)→Prop} {w:List Int} {s:Tb} {i j:Nat} (h:SetI c K w s j) (hj:j<c.N) (hi:i<c.m) (hw:gt w j=1) (hb:gt w (gt s.basic i)≠1) (hp:gt (gt s.R i) j≠0):SetI c K w (turnT s i j) (j+1) where
 t:=h.t.turn hj
 d:=h.d.turn h.t.b h.t.R h.t.Rr hi hj hp
 r:=h.r.turn h.d h.t hi hj hp
 a k hk hwk:=by
  have gb:∀k,k<c.m→gt (turnT s i j).basic k=if i=k then j else gt s.basic k:=fun k hk=>by
   show gt (s.basic.set i j) k=_
   rw [gt_set (by rw [h.t.b];exact hk)]
  by_cases e:k=j
  ·exact ⟨i,hi,by rw [gb i hi,if_pos rfl,e]⟩
  ·obtain ⟨q,hq,g⟩:=h.a k (by omega) hwk
   refine ⟨q,hq,?_⟩
   rw [gb q hq,if_neg (fun e2=>hb (by rw [e2,g];exact hwk)),g]
 w:=by
  obtain ⟨t,h1,h2⟩:=h.w
  refine ⟨t+1,by simp only [cnt];rw [if_pos hw];omega,fun k hk x hx=>?_⟩
  have:=turn_wd h.t (show 2≤2200*5^t by have:=Nat.pow_pos (n:=t) (show 0<5 by omega);omega) h2 hi hj k hk x hx
  rw [Nat.pow_succ]
  exact qw_mono this (by omega)
theorem SetI.no {c:Tc} {K:(Nat→Rat)→Prop} {w:List Int} {s:Tb} {j:Nat} (h:SetI c K w s j) (hj:j<c.N) (hw:gt w j=1) (hr:gt s.row j<0) (hn:∀i,i<c.m→gt w (gt s.basic i)=1∨gt (gt s.R i) j=0):¬IsB c K w:=fun hB=>by
 have hnb:∀i,i<c.m→gt s.basic i≠j:=by
  rcases h.r j hj with ⟨i,hi,g1,g2⟩ | ⟨g1,g2⟩
  ·omega
  ·exact g2
 let z:Nat→Rat:=fun k=>if k=j then 1 else sumR (fun i=>if gt s.basic i=k then gt (gt s.R i) j else 0) c.m
 have zb:∀i,i<c.m→z (gt s.basic i)=gt (gt s.R i) j:=fun i hi=>by
  show (if gt s.basic i=j then (1:Rat) else _)=_
  rw [if_neg (hnb i hi),sumR_one (p:=i) c.m hi (fun q hq hqi=>if_neg (fun e=>hqi (h.d.inj q i hq hi e))),if_pos rfl]
 have zn:∀k,k≠j→(∀i,i<c.m→gt s.basic i≠k)→z k=0:=fun k hk hb=>by
  show (if k=j then (1:Rat) else _)=_
  rw [if_neg hk]
  exact sumR_zero c.m fun i hi=>if_neg (hb i hi)
 have zj:z j=1:=if_pos rfl
 have hK:K z:=(h.d.sat z).2 fun r hr'=>by
  rw [zb r hr',sumR_one (p:=j) c.N hj (fun k hk hkj=>?_),zj,Rat.mul_one]
  by_cases hb:∃i,i<c.m∧gt s.basic i=k
  ·obtain ⟨i,hi,rfl⟩:=hb
   rw [h.d.z0 r i hr' hi,Rat.zero_mul]
  ·rw [zn k hkj (fun i hi e=>hb ⟨i,hi,e⟩),Rat.mul_zero]
 have:=hB.k z hK (fun k hk hwk=>by
  by_cases hb:∃i,i<c.m∧gt s.basic i=k
  ·obtain ⟨i,hi,rfl⟩:=hb
   rw [zb i hi]
   exact (hn i hi).resolve_left hwk
  ·exact zn k (fun e=>hwk (by rw [e];exact hw)) (fun i hi e=>hb ⟨i,hi,e⟩)) j hj
 rw [zj] at this
 exact absurd this (by decide)
theorem cnt_list {c:Tc} {w:List Int} {b:List Nat}:∀N,(∀k,k<N→gt w k=1→∃i,i<c.m∧gt b i=k)→cnt w N≤((List.range c.m).filter fun i=>decide (gt b i<N∧gt w (gt b i)=1)).length
 | 0,_=>Nat.zero_le _
 | N+1,h=>by
  have ih:=cnt_list N fun k hk=>h k (by omega)
  have sub:(List.range c.m).filter (fun q=>decide (gt b q<N∧gt w (gt b q)=1))=((List.range c.m).filter fun q=>decide (gt b q<N+1∧gt w (gt b q)=1)).filter (fun q=>decide (gt b q<N)):=by
   rw [List.filter_filter]
   refine List.filter_congr fun q _=>?_
   by_cases h1:gt b q<N
   ·simp [h1];omega
   ·simp [h1]
  simp only [cnt]
  rw [sub] at ih
  by_cases e:gt w N=1
  ·rw [if_pos e]
   obtain ⟨i,him,hb⟩:=h N (by omega) e
   have lt:(((List.range c.m).filter fun q=>decide (gt b q<N+1∧gt w (gt b q)=1)).filter (fun q=>decide (gt b q<N))).length<((List.range c.m).filter fun q=>decide (gt b q<N+1∧gt w (gt b q)=1)).length:=by
    refine Nat.lt_of_le_of_ne (List.length_filter_le _ _) fun he=>?_
    have:=List.length_filter_eq_length_iff.1 he i (by simp [hb,e];exact him)
    simp at this;omega
   omega
  ·rw [if_neg e]
   exact Nat.le_trans ih (List.length_filter_le _ _)
theorem SetI.all {c:Tc} {K:(Nat→Rat)→Prop} {w:List Int} {s:Tb} (h:SetI c K w s c.N) (hn:cnt w c.N=c.m):∀i,i<c.m→gt w (gt s.basic i)=1:=by
 have h1:=cnt_list (c:=c) (b:=s.basic) c.N h.a
 rw [hn] at h1
 have h2:=List.length_filter_le (fun i=>decide (gt s.basic i<c.N∧gt w (gt s.basic i)=1)) (List.range c.m)
 rw [List.length_range] at h2
 have h3:((List.range c.m).filter fun i=>decide (gt s.basic i<c.N∧gt w (gt s.basic i)=1)).length=(List.range c.m).length:=by rw [List.length_range];omega
 intro i hi
 have:=List.length_filter_eq_length_iff.1 h3 i (by simpa using hi)
 simp at this;exact this.2
theorem SetI.isB {c:Tc} {K:(Nat→Rat)→Prop} {w:List Int} {s:Tb} (h:SetI c K w s c.N) (hl:w.length=c.N) (hf:∀k,k<c.N→fit c w k) (hn:cnt w c.N=c.m):IsB c K w:=by
 refine ⟨hl,hf,hn,fun z hK hz k hk=>?_⟩
 by_cases hw:gt w k=1
 ·obtain ⟨i,hi,rfl⟩:=h.a k hk hw
  rw [(h.d.sat z).1 hK i hi]
  refine sumR_zero c.N fun q hq=>?_
  by_cases hq1:gt w q=1
  ·obtain ⟨r,hr,rfl⟩:=h.a q hq hq1
   rw [h.d.z0 i r hi hr,Rat.zero_mul]
  ·rw [hz q hq hq1,Rat.mul_zero]
 ·exact hz k hk hw
def xw (c:Tc) (w:List Int) (k:Nat):Rat:=if gt w k=2 then (gt c.low k).at' else if gt w k=3 then (gt c.high k).at' else 0
def putX (c:Tc) (w:List Int) (x:List Rat) (j:Nat):List Rat:=(List.range x.length).map fun k=>if k<j∧gt w k≠1 then xw c w k else gt x k
def putW (w wh:List Int) (j:Nat):List Int:=(List.range wh.length).map fun k=>if k<j then gt w k else gt wh k
@[simp] theorem putX_len (c:Tc) (w:List Int) (x:List Rat) (j:Nat):(putX c w x j).length=x.length:=by simp [putX]
@[simp] theorem putW_len (w wh:List Int) (j:Nat):(putW w wh j).length=wh.length:=by simp [putW]
theorem gt_putX {c:Tc} {w:List Int} {x:List Rat} {j k:Nat} (h:k<x.length):gt (putX c w x j) k=if k<j∧gt w k≠1 then xw c w k else gt x k:=by unfold putX;rw [gt_range _ h]
theorem gt_putW {w wh:List Int} {j k:Nat} (h:k<wh.length):gt (putW w wh j) k=if k<j then gt w k else gt wh k:=by unfold putW;rw [gt_range _ h]
theorem putX_zero (c:Tc) (w:List Int) (x:List Rat):putX c w x 0=x:=ext_gt' (by simp) fun k h=>by rw [gt_putX (by simpa using h)];simp
theorem putW_zero (w wh:List Int):putW w wh 0=wh:=ext_gt' (by simp) fun k h=>by rw [gt_putW (by simpa using h)];simp
theorem putX_set {c:Tc} {w:List Int} {x:List Rat} {j:Nat} (h:j<x.length) (hw:gt w j≠1):(putX c w x j).set j (xw c w j)=putX c w x (j+1):=ext_gt' (by simp) fun k hk=>by
 have hk:k<x.length:=by simpa using hk
 rw [gt_set (by simpa using hk),gt_putX hk,gt_putX hk]
 by_cases e:j=k
 ·subst e;rw [if_pos rfl,if_pos ⟨by omega,hw⟩]
 ·rw [if_neg e]
  by_cases q:k<j∧gt w k≠1
  ·rw [if_pos q,if_pos ⟨by omega,q.2⟩]
  ·rw [if_neg q,if_neg (fun q'=>q ⟨by omega,q'.2⟩)]
theorem putX_skip {c:Tc} {w:List Int} {x:List Rat} {j:Nat} (hw:gt w j=1):putX c w x (j+1)=putX c w x j:=ext_gt' (by simp) fun k hk=>by
 have hk:k<x.length:=by simpa using hk
 rw [gt_putX hk,gt_putX hk]
 by_cases e:k=j
 ·subst e;rw [if_neg (fun q=>q.2 hw),if_neg (fun q=>q.2 hw)]
 ·by_cases q:k<j∧gt w k≠1
  ·rw [if_pos q,if_pos ⟨by omega,q.2⟩]
  ·rw [if_neg q,if_neg (fun q'=>q ⟨by omega,q'.2⟩)]
theorem putW_set {w wh:List Int} {j:Nat} (h:j<wh.length):(putW w wh j).set j (gt w j)=putW w wh (j+1):=ext_gt' (by simp) fun k hk=>by
 have hk:k<wh.length:=by simpa using hk
 rw [gt_set (by simpa using hk),gt_putW hk,gt_putW hk]
 by_cases e:j=k
 ·subst e;rw [if_pos rfl,if_pos (by omega)]
 ·rw [if_neg e]
  by_cases q:k<j
  ·rw [if_pos q,if_pos (by omega)]
  ·rw [if_neg q,if_neg (by omega)]
theorem putW_end {w wh:List Int} (h:w.length=wh.length):putW w wh wh.length=w:=ext_gt' (by simp [h]) fun k hk=>by
 have hk:k<wh.length:=by simpa using hk
 rw [gt_putW hk,if_pos hk]
theorem rk_other {c:Tc} {s:Tb} (t:TbL c s) {k:Nat} (hk:k<c.N) (hb:∀i,i<c.m→gt s.basic i≠k):∀i,i≤c.m→gt (rkX s c.N i) k=gt s.x k
 | 0,_=>rfl
 | i+1,h=>by
  simp only [rkX]
  rw [gt_set (by rw [rkX_len,t.x];exact hk),if_neg (hb i (by omega))]
  exact rk_other t hk hb i (by omega)
theorem rk_sum {c:Tc} {K:(Nat→Rat)→Prop} {s:Tb} (t:TbL c s) (d:Dic K c.N c.m s.basic s.R) {r i:Nat} (hr:r<c.m) (hi:i≤c.m):sumR (fun k=>gt (gt s.R r) k*gt (rkX s c.N i) k) c.N=sumR (fun k=>gt (gt s.R r) k*gt s.x k) c.N:=sumR_congr c.N fun k hk=>by
 by_cases hb:∃q,q<c.m∧gt s.basic q=k
 ·obtain ⟨q,hq,rfl⟩:=hb
  rw [d.z0 r q hr hq,Rat.zero_mul,Rat.zero_mul]
 ·rw [rk_other t hk (fun q hq e=>hb ⟨q,hq,e⟩) i hi]
theorem rk_basic {c:Tc} {K:(Nat→Rat)→Prop} {s:Tb} (t:TbL c s) (d:Dic K c.N c.m s.basic s.R):∀i,i≤c.m→∀r,r<i→gt (rkX s c.N i) (gt s.basic r)=sumR (fun k=>gt (gt s.R r) k*gt s.x k) c.N
 | 0,_,r,hr=>by omega
 | i+1,h,r,hr=>by
  have hbr:=t.bb r (by omega)
  simp only [rkX]
  rw [gt_set (by rw [rkX_len,t.x];exact hbr)]
  by_cases e:r=i
  ·subst e;rw [if_pos rfl,rk_sum t d (by omega) (by omega)]
  ·rw [if_neg (fun q=>e (d.inj i r (by omega) (by omega) q).symm)]
   exact rk_basic t d i (by omega) r (by omega)
end Go.Sx

