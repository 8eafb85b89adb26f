/- A text of the prover's own. -/
import Derived.Test.YtnimjdcaajmfcaaGreatDoorUSb
import Derived.Test.YtnimjdcaajmfcaaGreatDoorUSf
import Derived.Test.YtnimjdcaajmfcaaGreatDoorUKi
import Derived.Test.YtnimjdcaajmfcaaGreatDoorUSh
namespace Go.Sx
open Go Go.Sv Go.Pl Go.Proofs Go.Tb Go.Ut Go.Mx Go.Li Go.Dt
def Ker (w:Nat) (m:List (List Rat)) (z:Nat→Rat):Prop:=∀i,i<m.length→sumR (fun k=>gt (gt m i) k*z k) w=0
structure Sh (n w:Nat) (m:List (List Rat)):Prop where
 l:m.length=n
 r:∀i,i<n→(gt m i).length=w
theorem swp_sh {n w:Nat} {m:List (List Rat)} (h:Sh n w m) {k t i:Nat} (hk:k<n) (ht:t<n) (hi:i<n):(swp m k t i).length=w:=by
 unfold swp
 split
 ·exact h.r t ht
 ·split
  ·exact h.r k hk
  ·exact h.r i hi
theorem Sh.step {n w:Nat} {m:List (List Rat)} (h:Sh n w m) {k t c:Nat} (hk:k<n) (ht:t<n):Sh n w (redStep m k t c) where
 l:=by rw [redStep_len,h.l]
 r i hi:=by
  rw [gt_redStep (by rw [h.l];exact hi)]
  split
  ·simp [h.r t ht]
  ·rw [subR_len];exact swp_sh h hk ht hi
theorem dot_one {h:List Rat} {w c:Nat} (hl:h.length=w) (z:Nat→Rat):sumR (fun k=>gt (oneR h c) k*z k) w=sumR (fun k=>gt h k*z k) w*(1 / gt h c):=by
 rw [←sumR_mulr]
 refine sumR_congr w fun k hk=>?_
 rw [gt_oneR (by omega),Rat.div_def,Rat.div_def];grind
theorem dot_sub {a b:List Rat} {y:Rat} {w:Nat} (hl:a.length=w) (z:Nat→Rat):sumR (fun k=>gt (subR a b y) k*z k) w=sumR (fun k=>gt a k*z k) w - y*sumR (fun k=>gt b k*z k) w:=by
 rw [←sumR_mul,←sumR_sub]
 refine sumR_congr w fun k hk=>?_
 rw [gt_subR (by omega)];grind
theorem ker_step {n w:Nat} {m:List (List Rat)} (h:Sh n w m) {k t c:Nat} (hk:k<n) (ht:t<n) (hp:gt (gt m t) c≠0) (z:Nat→Rat):Ker w (redStep m k t c) z↔Ker w m z:=by
 have hl:=h.l
 have inv:1 / gt (gt m t) c≠0:=fun e=>by
  have:1 / gt (gt m t) c*gt (gt m t) c=1:=Rat.div_mul_cancel hp
  rw [e] at this;grind
 constructor
 ·intro hz
  have z0:=hz k (by rw [redStep_len];omega)
  rw [gt_redStep (by omega),if_pos rfl,dot_one (h.r t ht)] at z0
  have zt:sumR (fun q=>gt (gt m t) q*z q) w=0:=by
   rcases Rat.mul_eq_zero.1 z0 with q | q
   ·exact q
   ·exact absurd q inv
  have zi:∀i,i<n→i≠k→sumR (fun q=>gt (swp m k t i) q*z q) w=0:=fun i hi hik=>by
   have z1:=hz i (by rw [redStep_len];omega)
   rw [gt_redStep (by omega),if_neg hik,dot_sub (swp_sh h hk ht hi),dot_one (h.r t ht),zt] at z1
   rw [Rat.zero_mul,Rat.mul_zero] at z1
   grind
  intro r hr
  by_cases e1:r=t
  ·rw [e1];exact zt
  ·by_cases e2:r=k
   ·have:=zi t ht (fun e=>e1 (by rw [e2,e]))
    unfold swp at this
    rw [if_neg (fun e=>e1 (by rw [e2,e])),if_pos rfl] at this
    rw [e2];exact this
   ·have:=zi r (by omega) e2
    unfold swp at this
    rw [if_neg e2,if_neg e1] at this
    exact this
 ·intro hz r hr
  rw [redStep_len] at hr
  have zt:=hz t (by omega)
  rw [gt_redStep hr]
  by_cases e:r=k
  ·rw [if_pos e,dot_one (h.r t ht),zt,Rat.zero_mul]
  ·rw [if_neg e,dot_sub (swp_sh h hk ht (by omega)),dot_one (h.r t ht),zt]
   have:sumR (fun q=>gt (swp m k t r) q*z q) w=0:=by
    unfold swp
    rw [if_neg e]
    split
    ·exact hz k (by omega)
    ·exact hz r hr
   rw [this];grind
structure RedY (n w:Nat) (a:List (List Rat)) (s:List (List Rat) × List Nat) (c:Nat):Prop where
 sh:Sh n w s.1
 f:s.2=List.range c
 u:∀q,q<c→∀i,i<n→gt (gt s.1 i) q=if i=q then 1 else 0
 k:∀z,Ker w s.1 z↔Ker w a z
def RedN (w:Nat) (a:List (List Rat)) (f:List Nat) (b:Nat):Prop:=(∃l,f=List.range b++l∧∀x,x∈l→b<x)∧∃z,Ker w a z∧z b=1∧∀k,b<k→z k=0
theorem RedN.next {w c b:Nat} {a:List (List Rat)} {s:List (List Rat) × List Nat} (h:RedN w a s.2 b) (hb:b<c):RedN w a (redS s c).2 b:=by
 obtain ⟨⟨l,hl,hx⟩,hz⟩:=h
 refine ⟨?_,hz⟩
 by_cases h1:s.2.length<s.1.length
 ·by_cases h2:∃t,isPiv s.1 c s.2.length t
  ·obtain ⟨t,ht⟩:=h2
   rw [redS_piv h1 ht]
   refine ⟨l++[c],by simp [hl],fun x hx'=>?_⟩
   rcases List.mem_append.1 hx' with q | q
   ·exact hx x q
   ·rw [List.mem_singleton.1 q];exact hb
  ·have:redS s c=s:=by unfold redS;rw [dif_neg h2];split<;>rfl
   rw [this];exact ⟨l,hl,hx⟩
 ·rw [redS_full h1];exact ⟨l,hl,hx⟩
theorem noPiv_of {m:List (List Rat)} {c k:Nat} (h:¬∃t,isPiv m c k t):noPiv m c k:=by
 have:∀d i,i=k+d→i<m.length→gt (gt m i) c=0:=fun d=>by
  induction d using Nat.strongRecOn with
  | ind d ih =>
   intro i hi hl
   apply Classical.byContradiction
   intro hn
   exact h ⟨i,by omega,hl,hn,fun j h1 h2=>ih (j - k) (by omega) j (by omega) (by omega)⟩
 exact fun i h1 h2=>this (i - k) i (by omega) h2
theorem red_run {a:List (List Rat)} {n w:Nat} (h:Sh n w a) (hw:n≤w):∀c,c≤n→RedY n w a (redAt a c) c∨∃b,b<c∧RedN w a (redAt a c).2 b
 | 0,_=>.inl ⟨h,rfl,fun q hq=>by omega,fun z=>Iff.rfl⟩
 | c+1,hc=>by
  rcases red_run h hw c (by omega) with ih | ⟨b,hb,ih⟩
  ·have hl:=ih.sh.l
   have h1:(redAt a c).2.length=c:=by rw [ih.f];simp
   show RedY n w a (redS (redAt a c) c) (c+1)∨∃b,b<c+1∧RedN w a (redS (redAt a c) c).2 b
   by_cases h2:∃t,isPiv (redAt a c).1 c (redAt a c).2.length t
   ·obtain ⟨t,ht⟩:=h2
    left
    rw [redS_piv (by omega) ht,h1]
    rw [h1] at ht
    obtain ⟨g1,g2,g3,g4⟩:=ht
    have htn:t<n:=by omega
    refine ⟨ih.sh.step (by omega) htn,by simp [ih.f,List.range_succ],fun q hq i hi=>?_,fun z=>(ker_step ih.sh (by omega) htn g3 z).trans (ih.k z)⟩
    show gt (gt (redStep _ _ _ _) i) q=_
    rw [gt_redStep (by omega)]
    have o1:∀x,x<w→gt (oneR (gt (redAt a c).1 t) c) x=gt (gt (redAt a c).1 t) x / gt (gt (redAt a c).1 t) c:=fun x hx=>gt_oneR (by rw [ih.sh.r t htn];exact hx)
    have pp:gt (gt (redAt a c).1 t) c / gt (gt (redAt a c).1 t) c=1:=by
     rw [Rat.div_def];exact Rat.mul_inv_cancel _ g3
    by_cases eq:q=c
    ·subst eq
     by_cases ei:i=q
     ·rw [if_pos ei,if_pos ei,o1 q (by omega),pp]
     ·rw [if_neg ei,if_neg ei,gt_subR (by rw [swp_sh ih.sh (by omega) htn hi];omega),o1 q (by omega),pp,Rat.one_mul,Rat.sub_self]
    ·have hqc:q<c:=by omega
     have z1:gt (oneR (gt (redAt a c).1 t) c) q=0:=by
      rw [o1 q (by omega),ih.u q hqc t htn,if_neg (by omega),Rat.div_def,Rat.zero_mul]
     by_cases ei:i=c
     ·rw [if_pos ei,z1,if_neg (by omega)]
     ·rw [if_neg ei,gt_subR (by rw [swp_sh ih.sh (by omega) htn hi];omega),z1,Rat.zero_mul]
      have e0:∀x:Rat,x - 0=x:=fun x=>by grind
      rw [e0]
      unfold swp
      rw [if_neg ei]
      by_cases et:i=t
      ·rw [if_pos et,ih.u q hqc c (by omega),if_neg (by omega),if_neg (by omega)]
      ·rw [if_neg et,ih.u q hqc i hi]
   ·right
    refine ⟨c,by omega,?_⟩
    have e:redS (redAt a c) c=redAt a c:=by unfold redS;rw [dif_neg h2];split<;>rfl
    rw [e]
    have np:=noPiv_of h2
    rw [h1] at np
    refine ⟨⟨[],by simp [ih.f],fun x hx=>by simp at hx⟩,fun k=>if k=c then 1 else if k<c then - gt (gt (redAt a c).1 k) c else 0,(ih.k _).1 fun i hi=>?_,if_pos rfl,fun k hk=>?_⟩
    ·by_cases hic:i<c
     ·rw [sumR_two (p:=i) (q:=c) hic w (by omega) (fun k hk h3 h4=>?_)]
      ·simp only [if_neg (show ¬i=c by omega),if_pos hic,if_true]
       rw [ih.u i hic i (by omega),if_pos rfl];grind
      ·simp only [if_neg h4]
       split
       ·rename_i h5
        rw [ih.u k h5 i (by omega),if_neg (fun e=>h3 e.symm),Rat.zero_mul]
       ·rw [Rat.mul_zero]
     ·refine sumR_zero w fun k hk=>?_
      by_cases e1:k=c
      ·rw [e1,np i (by omega) hi,Rat.zero_mul]
      ·simp only [if_neg e1]
       split
       ·rename_i h5
        rw [ih.u k h5 i (by omega),if_neg (by omega),Rat.zero_mul]
       ·rw [Rat.mul_zero]
    ·simp only [if_neg (show ¬k=c by omega),if_neg (show ¬k<c by omega)]
  ·exact .inr ⟨b,by omega,ih.next hb⟩
theorem red_end {a:List (List Rat)} {n w:Nat} (h:Sh n w a) (hw:n≤w):RedY n w a (redAt a w) n∨∃b,b<n∧RedN w a (redAt a w).2 b:=by
 rcases red_run h hw n (Nat.le_refl _) with g | ⟨b,hb,g⟩
 ·left
  have:redAt a (n+(w - n))=redAt a n:=redAt_full (by rw [g.f,g.sh.l];simp) _
  rw [show n+(w - n)=w by omega] at this
  rw [this];exact g
 ·right
  refine ⟨b,hb,?_⟩
  have:∀d,RedN w a (redAt a (n+d)).2 b:=fun d=>by
   induction d with
   | zero=>exact g
   | succ d ih=>exact ih.next (s:=redAt a (n+d)) (c:=n+d) (by omega)
  have q:=this (w - n)
  rw [show n+(w - n)=w by omega] at q
  exact q
theorem RedN.miss {w b:Nat} {a:List (List Rat)} {f:List Nat} (h:RedN w a f b):f.length≤b∨gt f b≠b:=by
 obtain ⟨⟨l,hl,hx⟩,_⟩:=h
 match l,hl,hx with
 | [],hl,_=>left;simp [hl]
 | y::l,hl,hx =>
  right
  have:=hx y (by simp)
  have e:gt f b=y:=by
   rw [hl];simp only [gt,List.getD_eq_getElem?_getD]
   rw [List.getElem?_append_right (by simp)];simp
  rw [e];omega
end Go.Sx
namespace Go.Sx
open Go Go.Sv Go.Pl Go.Proofs Go.Tb Go.Ut Go.Mx Go.Li Go.Dt
def bL (w:List Int) (N:Nat):List Nat:=(List.range N).filter fun k=>decide (gt w k=1)
def oL (w:List Int) (N:Nat):List Nat:=bL w N++(List.range N).filter fun k=>!decide (gt w k=1)
theorem bL_succ (w:List Int) (N:Nat):bL w (N+1)=bL w N++if gt w N=1 then [N] else []:=by
 unfold bL
 rw [List.range_succ,List.filter_append]
 congr 1
 by_cases h:gt w N=1<;>simp [h]
theorem bL_len (w:List Int):∀N,(bL w N).length=cnt w N
 | 0=>rfl
 | N+1=>by
  rw [bL_succ,List.length_append,bL_len w N]
  simp only [cnt]
  split<;>rfl
theorem oL_perm (w:List Int) (N:Nat):(oL w N).Perm (List.range N):=List.filter_append_perm _ _
theorem oL_len (w:List Int) (N:Nat):(oL w N).length=N:=by rw [(oL_perm w N).length_eq,List.length_range]
theorem gt_eq {l:List Nat} {i:Nat} (h:i<l.length):gt l i=l[i]:=by simp [gt,h]
theorem gt_inj {l:List Nat} (h:l.Nodup) {i j:Nat} (hi:i<l.length) (hj:j<l.length) (e:gt l i=gt l j):i=j:=by
 rw [gt_eq hi,gt_eq hj] at e
 have hp:=List.pairwise_iff_getElem.1 h
 rcases Nat.lt_trichotomy i j with g | g | g
 ·exact absurd e (hp i j hi hj g)
 ·exact g
 ·exact absurd e.symm (hp j i hj hi g)
theorem oL_lt {w:List Int} {N k:Nat} (h:k<N):gt (oL w N) k<N:=by
 have:=(oL_perm w N).mem_iff.1 (gt_mem (show k<(oL w N).length by rw [oL_len];exact h))
 exact List.mem_range.1 this
theorem oL_nodup (w:List Int) (N:Nat):(oL w N).Nodup:=(oL_perm w N).nodup_iff.2 List.nodup_range
theorem oL_inj {w:List Int} {N i j:Nat} (hi:i<N) (hj:j<N) (e:gt (oL w N) i=gt (oL w N) j):i=j:=gt_inj (oL_nodup w N) (by rw [oL_len];exact hi) (by rw [oL_len];exact hj) e
theorem oL_at {w:List Int} {N k:Nat} (h:k<cnt w N):gt (oL w N) k=gt (bL w N) k:=by
 unfold oL
 simp only [gt,List.getD_eq_getElem?_getD]
 rw [List.getElem?_append_left (by rw [bL_len];exact h)]
theorem bL_one {w:List Int} {N k:Nat} (h:k<cnt w N):gt (bL w N) k<N∧gt w (gt (bL w N) k)=1:=by
 have hm:=gt_mem (show k<(bL w N).length by rw [bL_len];exact h)
 have:=List.mem_filter.1 (show gt (bL w N) k∈(List.range N).filter (fun k=>decide (gt w k=1)) from hm)
 exact ⟨List.mem_range.1 this.1,by simpa using this.2⟩
theorem oL_no {w:List Int} {N k:Nat} (h:cnt w N≤k) (hk:k<N):gt w (gt (oL w N) k)≠1:=by
 have e:gt (oL w N) k=gt ((List.range N).filter fun k=>!decide (gt w k=1)) (k - cnt w N):=by
  unfold oL
  simp only [gt,List.getD_eq_getElem?_getD]
  rw [List.getElem?_append_right (by rw [bL_len];exact h),bL_len]
 have hl:=oL_len w N
 unfold oL at hl
 rw [List.length_append,bL_len] at hl
 have:=gt_mem (show k - cnt w N<((List.range N).filter fun k=>!decide (gt w k=1)).length by omega)
 rw [List.mem_filter] at this
 rw [e];simpa using this.2
theorem bL_has {w:List Int} {N k:Nat} (hk:k<N) (h:gt w k=1):∃r,r<cnt w N∧gt (bL w N) r=k:=by
 have:k∈bL w N:=by unfold bL;rw [List.mem_filter];exact ⟨List.mem_range.2 hk,by simpa using h⟩
 obtain ⟨r,hr,e⟩:=List.getElem_of_mem this
 exact ⟨r,by rw [←bL_len];exact hr,by rw [gt_eq hr];exact e⟩
theorem bL_inj {w:List Int} {N i j:Nat} (hi:i<cnt w N) (hj:j<cnt w N) (e:gt (bL w N) i=gt (bL w N) j):i=j:=by
 have:=cnt_le w N
 exact oL_inj (w:=w) (N:=N) (by omega) (by omega) (by rw [oL_at hi,oL_at hj,e])
def cellR (p:Prob) (n i k:Nat):Rat:=if k<n then entT (gt p.rows i).terms k else if k=n+i then -1 else 0
def tabR (p:Prob) (n m N:Nat) (ord:List Nat):List (List Rat):=(List.range m).map fun i=>(List.range N).map fun k=>cellR p n i (gt ord k)
theorem tabR_len (p:Prob) (n m N:Nat) (ord:List Nat):(tabR p n m N ord).length=m:=by simp [tabR]
theorem gt_tabR {p:Prob} {n m N:Nat} {ord:List Nat} {i k:Nat} (hi:i<m) (hk:k<N):gt (gt (tabR p n m N ord) i) k=cellR p n i (gt ord k):=by
 unfold tabR;rw [gt_range _ hi,gt_range _ hk]
theorem tabR_sh (p:Prob) (n m N:Nat) (ord:List Nat):Sh m N (tabR p n m N ord) where
 l:=tabR_len ..
 r i hi:=by unfold tabR;rw [gt_range _ hi];simp
def Kp (p:Prob) (n m:Nat) (z:Nat→Rat):Prop:=∀i,i<m→z (n+i)=sumR (fun k=>entT (gt p.rows i).terms k*z k) n
theorem cell_sum {p:Prob} {n m i:Nat} (hi:i<m) (z:Nat→Rat):sumR (fun k=>cellR p n i k*z k) (n+m)=sumR (fun k=>entT (gt p.rows i).terms k*z k) n - z (n+i):=by
 have e:sumR (fun k=>cellR p n i k*z k) (n+m)=sumR (fun k=>(if k<n then entT (gt p.rows i).terms k*z k else 0)+(if k=n+i then -1 else 0)*z k) (n+m):=sumR_congr _ fun k hk=>by
  unfold cellR
  by_cases h1:k<n
  ·rw [if_pos h1,if_pos h1,if_neg (by omega)];grind
  ·rw [if_neg h1,if_neg h1];grind
 rw [e,sumR_add,sumR_lt _ (by omega),sumR_one (f:=fun k=>(if k=n+i then -1 else 0)*z k) (p:=n+i) (n+m) (by omega) (fun k _ hk=>by simp only [if_neg hk];rw [Rat.zero_mul])]
 simp only [if_true];grind
theorem ker_tabR {p:Prob} {n m N:Nat} (hN:n+m=N) {w:List Int} (y z:Nat→Rat) (h:∀k,k<N→y k=z (gt (oL w N) k)):Ker N (tabR p n m N (oL w N)) y↔Kp p n m z:=by
 subst hN
 have e:∀i,i<m→sumR (fun k=>gt (gt (tabR p n m (n+m) (oL w (n+m))) i) k*y k) (n+m)=sumR (fun k=>entT (gt p.rows i).terms k*z k) n - z (n+i):=fun i hi=>by
  rw [←cell_sum hi z,←sumR_perm (f:=fun k=>cellR p n i k*z k) (ord:=gt (oL w (n+m))) (fun k hk=>oL_lt hk) (fun a b ha hb e=>oL_inj ha hb e)]
  exact sumR_congr _ fun k hk=>by rw [gt_tabR hi hk,h k hk]
 constructor
 ·intro hz i hi
  have:=hz i (by rw [tabR_len];exact hi)
  rw [e i hi] at this
  grind
 ·intro hz i hi
  rw [tabR_len] at hi
  rw [e i hi,hz i hi];grind
def atO (ord:List Nat) (N:Nat) (y:Nat→Rat) (x:Nat):Rat:=sumR (fun k=>if gt ord k=x then y k else 0) N
theorem atO_at {w:List Int} {N:Nat} {y:Nat→Rat} {k:Nat} (hk:k<N):atO (oL w N) N y (gt (oL w N) k)=y k:=by
 unfold atO
 rw [sumR_one (p:=k) N hk (fun q hq hqk=>if_neg fun e=>hqk (oL_inj hq hk e)),if_pos rfl]
theorem oL_has {w:List Int} {N x:Nat} (hx:x<N):∃k,k<N∧gt (oL w N) k=x:=by
 have:x∈oL w N:=(oL_perm w N).mem_iff.2 (List.mem_range.2 hx)
 obtain ⟨k,hk,e⟩:=List.getElem_of_mem this
 exact ⟨k,by rw [←oL_len w N];exact hk,by rw [gt_eq hk];exact e⟩
theorem redN_no {c:Tc} {p:Prob} {w:List Int} (hN:c.n+c.m=c.N) (hn:cnt w c.N=c.m) {f:List Nat} {b:Nat} (hb:b<c.m) (h:RedN c.N (tabR p c.n c.m c.N (oL w c.N)) f b):¬IsB c (Kp p c.n c.m) w:=fun hB=>by
 obtain ⟨_,y,hy,hy1,hy0⟩:=h
 have hz:=(ker_tabR (p:=p) hN y (atO (oL w c.N) c.N y) (fun k hk=>(atO_at hk).symm)).1 hy
 have:=hB.k _ hz (fun k hk hw=>by
  obtain ⟨q,hq,rfl⟩:=oL_has (w:=w) hk
  rw [atO_at hq]
  refine hy0 q ?_
  apply Classical.byContradiction
  intro hc
  exact hw (by rw [oL_at (by omega)];exact (bL_one (by omega)).2)) (gt (oL w c.N) b) (oL_lt (by omega))
 rw [atO_at (by omega),hy1] at this
 exact absurd this (by decide)
def byD (w:List Int) (N m:Nat) (R:List (List Rat)) (i:Nat):List Rat:=(List.range N).map fun x=>atO (oL w N) N (fun k=>if k<m then 0 else -(gt (gt R i) k)) x
theorem gt_byD {w:List Int} {N m:Nat} {R:List (List Rat)} {i k:Nat} (hk:k<N):gt (byD w N m R i) (gt (oL w N) k)=if k<m then 0 else -(gt (gt R i) k):=by
 unfold byD;rw [gt_range _ (oL_lt hk),atO_at hk]
theorem redY_dic {c:Tc} {p:Prob} {w:List Int} (hN:c.n+c.m=c.N) (hn:cnt w c.N=c.m) {s:List (List Rat) × List Nat} (h:RedY c.m c.N (tabR p c.n c.m c.N (oL w c.N)) s c.m) :
  Dic (Kp p c.n c.m) c.N c.m (bL w c.N) ((List.range c.m).map (byD w c.N c.m s.1)) where
 bl i hi:=(bL_one (by omega)).1
 inj i k hi hk e:=bL_inj (by omega) (by omega) e
 z0 r i hr hi:=by
  rw [gt_range _ hr,←oL_at (by omega),gt_byD (by omega),if_pos hi]
 sat z:=by
  rw [←ker_tabR (p:=p) hN (fun k=>z (gt (oL w c.N) k)) z (fun k hk=>rfl),←h.k]
  have e:∀r,r<c.m→sumR (fun k=>gt (gt s.1 r) k*z (gt (oL w c.N) k)) c.N=z (gt (bL w c.N) r) - sumR (fun k=>gt (byD w c.N c.m s.1 r) k*z k) c.N:=fun r hr=>by
   rw [←sumR_perm (f:=fun k=>gt (byD w c.N c.m s.1 r) k*z k) (ord:=gt (oL w c.N)) (fun k hk=>oL_lt hk) (fun a b ha hb e=>oL_inj ha hb e)]
   rw [show z (gt (bL w c.N) r)=sumR (fun k=>(if k=r then 1 else 0)*z (gt (oL w c.N) k)) c.N by
    rw [sumR_one (p:=r) c.N (by omega) (fun k _ hk=>by simp only [if_neg hk];rw [Rat.zero_mul])]
    simp only [if_true];rw [Rat.one_mul,oL_at (by omega)]]
   rw [←sumR_sub]
   refine sumR_congr _ fun k hk=>?_
   rw [gt_byD hk]
   by_cases q:k<c.m
   ·rw [h.u k q r hr,if_pos q]
    by_cases e:k=r
    ·rw [if_pos e,if_pos e.symm];grind
    ·rw [if_neg e,if_neg (fun e'=>e e'.symm)];grind
   ·rw [if_neg q,if_neg (by omega)];grind
  have hl:=h.sh.l
  constructor
  ·intro hz r hr
   have:=hz r (by omega)
   rw [e r hr] at this
   rw [gt_range _ hr];grind
  ·intro hz r hr
   have:=hz r (by omega)
   rw [gt_range _ (by omega)] at this
   show sumR (fun k=>gt (gt s.1 r) k*z (gt (oL w c.N) k)) c.N=0
   rw [e r (by omega),this];grind
theorem redY_isB {c:Tc} {p:Prob} {w:List Int} (hN:c.n+c.m=c.N) (hl:w.length=c.N) (hf:∀k,k<c.N→Sx.fit c w k) (hn:cnt w c.N=c.m) {s:List (List Rat) × List Nat} (h:RedY c.m c.N (tabR p c.n c.m c.N (oL w c.N)) s c.m):IsB c (Kp p c.n c.m) w:=by
 have d:=redY_dic hN hn h
 refine ⟨hl,hf,hn,fun z hz h0 k hk=>?_⟩
 by_cases hw:gt w k=1
 ·obtain ⟨r,hr,rfl⟩:=bL_has hk hw
  rw [(d.sat z).1 hz r (by omega)]
  refine sumR_zero _ fun q hq=>?_
  by_cases hq1:gt w q=1
  ·obtain ⟨i,hi,rfl⟩:=bL_has hq hq1
   rw [d.z0 r i (by omega) (by omega),Rat.zero_mul]
  ·rw [h0 q hq hq1,Rat.mul_zero]
 ·exact h0 k hk hw
theorem Dic.uniq {K:(Nat→Rat)→Prop} {N m:Nat} {b:List Nat} {R1 R2:List (List Rat)} (h1:Dic K N m b R1) (h2:Dic K N m b R2) {i k:Nat} (hi:i<m) (hk:k<N):gt (gt R1 i) k=gt (gt R2 i) k:=by
 by_cases hb:∃q,q<m∧gt b q=k
 ·obtain ⟨q,hq,rfl⟩:=hb
  rw [h1.z0 i q hi hq,h2.z0 i q hi hq]
 ·let z:Nat→Rat:=fun x=>if x=k then 1 else sumR (fun q=>if gt b q=x then gt (gt R1 q) k else 0) m
  have zk:z k=1:=if_pos rfl
  have zb:∀q,q<m→z (gt b q)=gt (gt R1 q) k:=fun q hq=>by
   show (if gt b q=k then (1:Rat) else _)=_
   rw [if_neg (fun e=>hb ⟨q,hq,e⟩),sumR_one (p:=q) m hq (fun a ha haq=>if_neg fun e=>haq (h1.inj a q ha hq e)),if_pos rfl]
  have zn:∀x,x≠k→(∀q,q<m→gt b q≠x)→z x=0:=fun x hx hq=>by
   show (if x=k then (1:Rat) else _)=_
   rw [if_neg hx]
   exact sumR_zero m fun q hq'=>if_neg (hq q hq')
  have one:∀{R:List (List Rat)},Dic K N m b R→∀r,r<m→sumR (fun x=>gt (gt R r) x*z x) N=gt (gt R r) k:=fun {R} h r hr=>by
   rw [sumR_one (p:=k) N hk (fun x hx hxk=>?_),zk,Rat.mul_one]
   by_cases hxb:∃q,q<m∧gt b q=x
   ·obtain ⟨q,hq,rfl⟩:=hxb
    rw [h.z0 r q hr hq,Rat.zero_mul]
   ·rw [zn x hxk (fun q hq e=>hxb ⟨q,hq,e⟩),Rat.mul_zero]
  have hK:K z:=(h1.sat z).2 fun r hr=>by rw [zb r hr,one h1 r hr]
  have:=(h2.sat z).1 hK i hi
  rw [zb i hi,one h2 i hi] at this
  exact this
structure IsF (c:Tc) (K:(Nat→Rat)→Prop) (w:List Int) (cst:Nat→Rat) (By:List (List Rat)) (x cost:List Rat):Prop where
 bl:By.length=c.m
 br:∀i,i<c.m→(gt By i).length=c.N
 d:Dic K c.N c.m (bL w c.N) By
 xl:x.length=c.N
 xn:∀k,k<c.N→gt w k≠1→gt x k=xw c w k
 xb:∀r,r<c.m→gt x (gt (bL w c.N) r)=sumR (fun k=>gt (gt By r) k*gt x k) c.N
 cl:cost.length=c.N
 cn:∀k,k<c.N→gt cost k=if gt w k=1 then 0 else cst k+sumR (fun r=>cst (gt (bL w c.N) r)*gt (gt By r) k) c.m
theorem IsF.uniq {c:Tc} {K:(Nat→Rat)→Prop} {w:List Int} {cst:Nat→Rat} {B1 B2:List (List Rat)} {x1 x2 c1 c2:List Rat} (hn:cnt w c.N=c.m) (h1:IsF c K w cst B1 x1 c1) (h2:IsF c K w cst B2 x2 c2):B1=B2∧x1=x2∧c1=c2:=by
 have eB:B1=B2:=ext_gt' (by rw [h1.bl,h2.bl]) fun i hi=>by
  have hi:i<c.m:=by rw [←h1.bl];exact hi
  exact ext_gt' (by rw [h1.br i hi,h2.br i hi]) fun k hk=>h1.d.uniq h2.d hi (by rw [h1.br i hi] at hk;exact hk)
 subst eB
 refine ⟨rfl,ext_gt' (by rw [h1.xl,h2.xl]) fun k hk=>?_,ext_gt' (by rw [h1.cl,h2.cl]) fun k hk=>?_⟩
 ·rw [h1.xl] at hk
  by_cases hw:gt w k=1
  ·obtain ⟨r,hr,rfl⟩:=bL_has hk hw
   rw [h1.xb r (by omega),h2.xb r (by omega)]
   refine sumR_congr _ fun q hq=>?_
   by_cases hq1:gt w q=1
   ·obtain ⟨i,hi,rfl⟩:=bL_has hq hq1
    rw [h1.d.z0 r i (by omega) (by omega),Rat.zero_mul,Rat.zero_mul]
   ·rw [h1.xn q hq hq1,h2.xn q hq hq1]
  ·rw [h1.xn k hk hw,h2.xn k hk hw]
 ·rw [h1.cl] at hk
  rw [h1.cn k hk,h2.cn k hk]
end Go.Sx
namespace Go.Sx
open Go Go.Sv Go.Pl Go.Proofs Go.Tb Go.Ut Go.Mx Go.Li Go.Dt
def byP (s:Tb) (w:List Int) (N:Nat):List (List Rat):=(bL w N).map fun j=>gt s.R (gt s.row j).toNat
def coP (c:Tc) (s:Tb) (w:List Int) (mx:Bool):List Rat:=(List.range c.N).map fun k=>if gt w k=1 then 0 else if mx=true then -(redC c s k c.m) else redC c s k c.m
theorem gt_byP {s:Tb} {w:List Int} {N r:Nat} (h:r<cnt w N):gt (byP s w N) r=gt s.R (gt s.row (gt (bL w N) r)).toNat:=by
 unfold byP;rw [gt_map _ (by rw [bL_len];exact h)]
theorem row_at {c:Tc} {K:(Nat→Rat)→Prop} {w:List Int} {s:Tb} (h:SetI c K w s c.N) {k:Nat} (hk:k<c.N) (hw:gt w k=1):∃i,i<c.m∧gt s.basic i=k∧gt s.row k=(i:Int):=by
 rcases h.r k hk with g | ⟨_,g⟩
 ·exact g
 ·obtain ⟨i,hi,e⟩:=h.a k hk hw
  exact absurd e (g i hi)
theorem isF_prog {c:Tc} {K:(Nat→Rat)→Prop} {w:List Int} {s:Tb} (h:SetI c K w s c.N) (hn:cnt w c.N=c.m) (mx:Bool) (cst:Nat→Rat) (hc:∀k,k<c.N→gt c.cost k=if mx=true then -cst k else cst k)
  (hx:∀k,k<c.N→gt w k≠1→gt s.x k=xw c w k) (hb:∀r,r<c.m→gt s.x (gt s.basic r)=sumR (fun k=>gt (gt s.R r) k*gt s.x k) c.N):IsF c K w cst (byP s w c.N) s.x (coP c s w mx):=by
 have ex:∀r,r<c.m→(gt s.row (gt (bL w c.N) r)).toNat<c.m∧gt s.basic (gt s.row (gt (bL w c.N) r)).toNat=gt (bL w c.N) r:=fun r hr=>by
  obtain ⟨h1,h2⟩:=bL_one (w:=w) (N:=c.N) (k:=r) (by omega)
  obtain ⟨i,hi,e1,e2⟩:=row_at h h1 h2
  rw [e2];exact ⟨by simpa using hi,by simpa using e1⟩
 have inj:∀a b,a<c.m→b<c.m→(gt s.row (gt (bL w c.N) a)).toNat=(gt s.row (gt (bL w c.N) b)).toNat→a=b:=fun a b ha hb e=>by
  have e1:=(ex a ha).2
  have e2:=(ex b hb).2
  rw [e] at e1
  exact bL_inj (w:=w) (N:=c.N) (by omega) (by omega) (e1.symm.trans e2)
 have gR:∀r,r<c.m→gt (byP s w c.N) r=gt s.R (gt s.row (gt (bL w c.N) r)).toNat:=fun r hr=>gt_byP (by omega)
 refine ⟨by unfold byP;rw [List.length_map,bL_len,hn],fun i hi=>by rw [gR i hi];exact h.t.Rr _ (ex i hi).1,⟨fun i hi=>(bL_one (by omega)).1,fun i k hi hk e=>bL_inj (by omega) (by omega) e,fun r i hr hi=>?_,fun z=>?_⟩,h.t.x,hx,fun r hr=>?_,by simp [coP],fun k hk=>?_⟩
 ·rw [gR r hr,←(ex i hi).2]
  exact h.d.z0 _ _ (ex r hr).1 (ex i hi).1
 ·rw [h.d.sat z]
  constructor
  ·intro hz r hr
   rw [gR r hr,←hz _ (ex r hr).1,(ex r hr).2]
  ·intro hz i hi
   obtain ⟨r,hr,e⟩:=bL_has (h.d.bl i hi) (h.all hn i hi)
   have hr:r<c.m:=by omega
   have e2:(gt s.row (gt (bL w c.N) r)).toNat=i:=h.d.inj _ _ (ex r hr).1 hi (by rw [(ex r hr).2,e])
   have:=hz r hr
   rw [gR r hr,e2,e] at this
   exact this
 ·rw [gR r hr,←hb _ (ex r hr).1,(ex r hr).2]
 ·unfold coP
  rw [gt_range _ hk]
  split
  ·rfl
  ·have e1:sumR (fun r=>cst (gt (bL w c.N) r)*gt (gt (byP s w c.N) r) k) c.m=sumR (fun i=>cst (gt s.basic i)*gt (gt s.R i) k) c.m:=by
    rw [←sumR_perm (f:=fun i=>cst (gt s.basic i)*gt (gt s.R i) k) (ord:=fun r=>(gt s.row (gt (bL w c.N) r)).toNat) (fun r hr=>(ex r hr).1) inj]
    exact sumR_congr _ fun r hr=>by rw [gR r hr,(ex r hr).2]
   rw [e1]
   unfold redC
   by_cases hm:mx=true
   ·rw [if_pos hm,hc k hk,if_pos hm]
    have:sumR (fun i=>gt c.cost (gt s.basic i)*gt (gt s.R i) k) c.m = -sumR (fun i=>cst (gt s.basic i)*gt (gt s.R i) k) c.m:=by
     rw [←sumR_neg]
     exact sumR_congr _ fun i hi=>by rw [hc _ (h.d.bl i hi),if_pos hm];grind
    rw [this];grind
   ·rw [if_neg hm,hc k hk,if_neg hm]
    congr 1
    exact sumR_congr _ fun i hi=>by rw [hc _ (h.d.bl i hi),if_neg hm]
end Go.Sx

