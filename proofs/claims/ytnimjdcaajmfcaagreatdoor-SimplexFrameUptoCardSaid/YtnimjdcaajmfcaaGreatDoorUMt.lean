/- A text of the prover's own. -/
import Derived.Test.YtnimjdcaajmfcaaGreatDoorUUt
import Derived.Test.YtnimjdcaajmfcaaGreatDoorUEs
import Derived.Test.YtnimjdcaajmfcaaGreatDoorUQo
import Derived.Test.YtnimjdcaajmfcaaGreatDoorUVe
import Derived.Test.YtnimjdcaajmfcaaGreatDoorULr
set_option maxRecDepth 10000
namespace Go.Mx
open Go Go.Sv Go.Pl Go.Proofs Go.Tb Go.Ut
def subR (a b:List Rat) (y:Rat):List Rat:=(List.range a.length).map fun j=>gt a j - gt b j*y
def oneR (h:List Rat) (c:Nat):List Rat:=h.map fun x=>x / gt h c
def swp (m:List (List Rat)) (k t i:Nat):List Rat:=if i=k then gt m t else if i=t then gt m k else gt m i
def redStep (m:List (List Rat)) (k t c:Nat):List (List Rat):=(List.range m.length).map fun i =>
 if i=k then oneR (gt m t) c else subR (swp m k t i) (oneR (gt m t) c) (gt (swp m k t i) c)
def isPiv (m:List (List Rat)) (c k t:Nat):Prop:=k≤t∧t<m.length∧gt (gt m t) c≠0∧∀i,k≤i→i<t→gt (gt m i) c=0
def noPiv (m:List (List Rat)) (c k:Nat):Prop:=∀i,k≤i→i<m.length→gt (gt m i) c=0
open Classical in
noncomputable def redS (s:List (List Rat) × List Nat) (c:Nat):List (List Rat) × List Nat :=
 if s.2.length<s.1.length then
  if h:∃t,isPiv s.1 c s.2.length t then (redStep s.1 s.2.length h.choose c,s.2++[c]) else s
 else s
theorem isPiv_uniq {m:List (List Rat)} {c k t t':Nat} (h:isPiv m c k t) (h':isPiv m c k t'):t=t':=by
 rcases Nat.lt_trichotomy t t' with g | g | g
 ·exact absurd (h'.2.2.2 t h.1 g) h.2.2.1
 ·exact g
 ·exact absurd (h.2.2.2 t' h'.1 g) h'.2.2.1
theorem redS_piv {s:List (List Rat) × List Nat} {c t:Nat} (hl:s.2.length<s.1.length) (h:isPiv s.1 c s.2.length t):redS s c=(redStep s.1 s.2.length t c,s.2++[c]):=by
 have hx:∃t,isPiv s.1 c s.2.length t:=⟨t,h⟩
 unfold redS
 rw [if_pos hl,dif_pos hx,isPiv_uniq hx.choose_spec h]
theorem redS_none {s:List (List Rat) × List Nat} {c:Nat} (h:noPiv s.1 c s.2.length):redS s c=s:=by
 have hx:¬∃t,isPiv s.1 c s.2.length t:=fun ⟨t,g⟩=>g.2.2.1 (h t g.1 g.2.1)
 unfold redS
 rw [dif_neg hx];split<;>rfl
theorem redS_full {s:List (List Rat) × List Nat} {c:Nat} (h:¬s.2.length<s.1.length):redS s c=s:=by
 unfold redS;rw [if_neg h]
noncomputable def redAt (a:List (List Rat)):Nat→List (List Rat) × List Nat
 | 0=>(a,[])
 | c+1=>redS (redAt a c) c
theorem redAt_full {a:List (List Rat)} {c:Nat} (h:¬(redAt a c).2.length<(redAt a c).1.length):∀d,redAt a (c+d)=redAt a c
 | 0=>rfl
 | d+1=>by
  show redS (redAt a (c+d)) (c+d)=_
  rw [redAt_full h d,redS_full h]
structure Tw (n w W:Nat) (m:List (List Rat)):Prop where
 l:m.length=n
 r:∀i,i<n→(gt m i).length=w
 q:∀i j,i<n→j<w→qw W (gt (gt m i) j)
theorem gt_range {α:Type} [Inhabited α] (f:Nat→α) {n i:Nat} (h:i<n):gt ((List.range n).map f) i=f i:=by simp [gt,h]
@[simp] theorem subR_len (a b:List Rat) (y:Rat):(subR a b y).length=a.length:=by simp [subR]
@[simp] theorem oneR_len (h:List Rat) (c:Nat):(oneR h c).length=h.length:=by simp [oneR]
theorem gt_subR {a b:List Rat} {y:Rat} {j:Nat} (h:j<a.length):gt (subR a b y) j=gt a j - gt b j*y:=by unfold subR;rw [gt_range _ h]
theorem gt_oneR {a:List Rat} {c j:Nat} (h:j<a.length):gt (oneR a c) j=gt a j / gt a c:=by unfold oneR;rw [gt_map _ h]
@[simp] theorem redStep_len (m:List (List Rat)) (k t c:Nat):(redStep m k t c).length=m.length:=by simp [redStep]
theorem gt_redStep {m:List (List Rat)} {k t c i:Nat} (h:i<m.length):gt (redStep m k t c) i=if i=k then oneR (gt m t) c else subR (swp m k t i) (oneR (gt m t) c) (gt (swp m k t i) c):=by
 unfold redStep;rw [gt_range _ h]
theorem swp_w {n w W:Nat} {m:List (List Rat)} (h:Tw n w W m) {k t i:Nat} (hk:k<n) (ht:t<n) (hi:i<n):(swp m k t i).length=w∧∀j,j<w→qw W (gt (swp m k t i) j):=by
 unfold swp
 split
 ·exact ⟨h.r t ht,fun j hj=>h.q t j ht hj⟩
 ·split
  ·exact ⟨h.r k hk,fun j hj=>h.q k j hk hj⟩
  ·exact ⟨h.r i hi,fun j hj=>h.q i j hi hj⟩
theorem one_w {n w W:Nat} {m:List (List Rat)} (h:Tw n w W m) {t c:Nat} (ht:t<n) (hc:c<w) (hW:1≤W):(oneR (gt m t) c).length=w∧∀j,j<w→qw (2*W) (gt (oneR (gt m t) c) j):=by
 refine ⟨by simp [h.r t ht],fun j hj=>?_⟩
 rw [gt_oneR (by rw [h.r t ht];exact hj)]
 exact qw_mono (qw_div (h.q t j ht hj) (h.q t c ht hc) hW) (by omega)
theorem sub_w {w W:Nat} {a b:List Rat} {y:Rat} (la:a.length=w) (ha:∀j,j<w→qw W (gt a j)) (hb:∀j,j<w→qw (2*W) (gt b j)) (hy:qw W y) (hW:1≤W):∀j,j<w→qw (5*W) (gt (subR a b y) j):=fun j hj=>by
 rw [gt_subR (by omega)]
 exact qw_mono (qw_sub (ha j hj) (qw_mul (hb j hj) hy (by omega))) (by omega)
theorem Tw.step {n w W:Nat} {m:List (List Rat)} (h:Tw n w W m) {k t c:Nat} (hk:k<n) (ht:t<n) (hc:c<w) (hW:1≤W):Tw n w (5*W) (redStep m k t c) where
 l:=by rw [redStep_len,h.l]
 r:=fun i hi=>by
  rw [gt_redStep (by rw [h.l];exact hi)]
  split
  ·exact (one_w h ht hc hW).1
  ·rw [subR_len];exact (swp_w h hk ht hi).1
 q:=fun i j hi hj=>by
  rw [gt_redStep (by rw [h.l];exact hi)]
  split
  ·exact qw_mono ((one_w h ht hc hW).2 j hj) (by omega)
  ·have s:=swp_w h hk ht hi
   exact sub_w s.1 s.2 (one_w h ht hc hW).2 (s.2 c hc) hW j hj
theorem redAt_ok {a:List (List Rat)} {n w:Nat} (h:Tw n w 2200 a):∀c,c≤w→Tw n w (2200*5^(redAt a c).2.length) (redAt a c).1∧(redAt a c).2.length≤n
 | 0,_=>⟨by simpa [redAt] using h,by simp [redAt]⟩
 | c+1,hc=>by
  obtain ⟨ih,il⟩:=redAt_ok h c (by omega)
  show Tw n w (2200*5^(redS (redAt a c) c).2.length) (redS (redAt a c) c).1∧(redS (redAt a c) c).2.length≤n
  by_cases hl:(redAt a c).2.length<(redAt a c).1.length
  ·by_cases hp:∃t,isPiv (redAt a c).1 c (redAt a c).2.length t
   ·obtain ⟨t,hp⟩:=hp
    rw [redS_piv hl hp]
    have hn:=ih.l
    have:=ih.step (k:=(redAt a c).2.length) (t:=t) (c:=c) (by omega) (by have:=hp.2.1;omega) (by omega) (by have:=Nat.pow_pos (n:=(redAt a c).2.length) (show 0<5 by omega);omega)
    refine ⟨?_,by simp;omega⟩
    simp only [List.length_append,List.length_cons,List.length_nil,Nat.pow_succ,Nat.zero_add]
    rwa [show 2200*(5^(redAt a c).2.length*5)=5*(2200*5^(redAt a c).2.length) by omega]
   ·have:redS (redAt a c) c=redAt a c:=by unfold redS;rw [dif_neg hp];split<;>rfl
    rw [this];exact ⟨ih,il⟩
  ·rw [redS_full hl];exact ⟨ih,il⟩
theorem pow5_le7 {e n:Nat} (h:e≤n) (hn:n≤7):2200*5^e≤171875000:=by
 have:5^e≤5^7:=Nat.pow_le_pow_right (by omega) (by omega)
 omega
theorem usesL_tk {α:Type} (k i:Nat) (f:α→SV) (l:List α):SV.usesL k ((l.map f).take i)=(l.take i).any fun x=>(f x).uses k:=by
 rw [←List.map_take,usesL_map]
theorem pureL_tk {α:Type} (i:Nat) (f:α→SV) (l:List α):SV.pureL ((l.map f).take i)=(l.take i).all fun x=>(f x).pure:=by
 rw [←List.map_take,pureL_map]
theorem ltL_tk {α:Type} (k i:Nat) (f:α→SV) (l:List α):SV.ltL k ((l.map f).take i)=(l.take i).all fun x=>(f x).lt k:=by
 rw [←List.map_take,ltL_map]
attribute [simp] usesL_map usesL_tk pureL_tk ltL_tk
theorem take1 {α:Type} [Inhabited α] (f:α→SV) {l:List α} {i:Nat} (h:i<l.length):(l.map f).take (i+1)=(l.map f).take i++[f (gt l i)]:=by
 rw [←List.map_take,take_gt h];simp
end Go.Mx
namespace Go.Proofs
open Go.Sv Go Go.Tb Go.Pl Go.Ut Go.Mx
theorem rWithout_ok (a b:List Rat) (y:Rat) (hl:b.length=a.length) (hn:a.length≤1048576) (ha:∀j,j<a.length→qok (gt a j)) (hb:∀j,j<a.length→qok (gt b j)) (hy:qok y) (hp:∀j,j<a.length→qok (gt b j*y)) :
  PureF Tryz.prog 102 [.ro (a.map qsv),.ro (b.map qsv),qsv y] (.ro ((subR a b y).map qsv)):=by
 refine pure_enter Tryz.func102 rfl (by simp) (fun C hC=>?_)
 simp
 refine CodeJ.nil 7 4 rfl ?_
 refine CodeJ.loopL (ι:=Nat) (fun i=>⟨34,[(0,.ro (a.map qsv)),(1,.ro (b.map qsv)),(5,.ptr 0 0 0),(7,.view 1 0 i),(8,iv i)],[some ⟨4,[qsv y],false⟩,some ⟨4,((subR a b y).take i).map qsv,false⟩]⟩)
  (fun i=>i≤a.length) (fun i=>a.length - i) 0 (by simp) ?_ ?_
 ·simp [leS,hC]
 ·rintro i hi
  by_cases hlt:i<a.length
  ·have q1:=lget_q hlt
   have q2:=lget_q (show i<b.length by omega)
   simp (disch:=omega) [hlt,hl]
   repeat (refine And.intro (by omega) ?_)
   refine CodeJ.drawZ (.d 6<|.qs [0,1,2,3,4]<|.p 5<|.b ( .l 7 [2]<|.nil )) (by kernel_rfl) (by kernel_rfl) (by simp) ?_
   simp (disch:=omega) [hlt,hl,q1,q2]
   repeat (refine And.intro (by omega) ?_)
   refine callV (pMul_ok _ _ (hb i hlt) hy) (by simp) ?_
   simp (disch:=omega) [hlt,hl,q1,q2]
   repeat (refine And.intro (by omega) ?_)
   refine CodeJ.drawZ (.d 6<|.qs [0,1,2,3,4]<|.p 5<|.b ( .l 7 [3]<|.nil )) (by kernel_rfl) (by kernel_rfl) (by simp) ?_
   simp (disch:=omega) [hlt,hl,q1,q2]
   repeat (refine And.intro (by omega) ?_)
   refine callV (pSub_ok _ _ (ha i hlt) (hp i hlt)) (by simp) ?_
   simp (disch:=omega) [hlt,hl,q1,q2,w64]
   repeat (refine And.intro (by omega) ?_)
   exact ⟨⟨by simp [hC],by omega⟩,i+1,by omega,by omega,Le.syn (by simp (disch:=omega) [leS,hC,w64,take1 qsv (show i<(subR a b y).length by simpa using hlt),gt_subR])⟩
  ·obtain rfl:i=a.length:=by omega
   have e:((subR a b y).map qsv).take a.length=(subR a b y).map qsv:=List.take_of_length_le (by simp)
   simp [e]
theorem rReduce_ok {m:List (List Rat)} {n w W k t c:Nat} (h:Tw n w W m) (hn:n≤1048576) (hw:w≤1048576) (h1:1≤W) (h2:W≤1000000000) (hk:k<n) (ht:t<n) (hc:c<w) (hz:gt (gt m t) c≠0) :
  PureF Tryz.prog 131 [.ro (m.map qlv),iv k,iv t,iv c] (.ro ((redStep m k t c).map qlv)):=by
 have hl:=h.l
 have lt:=lget_qlv (l:=m) (i:=t) (by omega)
 have lk:=lget_qlv (l:=m) (i:=k) (by omega)
 have wt:=h.r t ht
 have lc:=lget_q (l:=gt m t) (i:=c) (by omega)
 have ow:=one_w h ht hc h1
 refine pure_enter Tryz.func131 rfl (by simp) (fun C hC=>?_)
 simp (disch:=omega) [hl,lt]
 repeat (refine And.intro (by omega) ?_)
 refine CodeJ.nil 10 4 rfl ?_
 simp
 refine CodeJ.loopL (ι:=Nat) (fun i=>⟨76,[(0,.ro (m.map qlv)),(1,iv k),(2,iv t),(3,iv c),(9,.ro ((gt m t).map qsv)),(10,.view 0 0 i),(11,iv i)],[some ⟨4,((oneR (gt m t) c).take i).map qsv,false⟩]⟩)
  (fun i=>i≤w) (fun i=>w - i) 0 (by simp) ?_ ?_
 ·simp [leS,hC]
 ·rintro i hi
  by_cases hlt:i<w
  ·have q1:=lget_q (l:=gt m t) (i:=i) (by omega)
   simp (disch:=omega) [hlt,wt]
   repeat (refine And.intro (by omega) ?_)
   refine CodeJ.drawZ (.d 9<|.qs [0,1,2,3,4,5,6,7]<|.p 8<|.b ( .l 10 [1]<|.nil )) (by kernel_rfl) (by kernel_rfl) (by simp) ?_
   simp (disch:=omega) [hlt,wt,q1,lc]
   repeat (refine And.intro (by omega) ?_)
   refine callV (pQuo_ok _ _ (qok_of (h.q t i ht hlt) (by omega)) (qok_of (h.q t c ht hc) (by omega)) hz) (by simp) ?_
   simp (disch:=omega) [hlt,wt,w64]
   repeat (refine And.intro (by omega) ?_)
   have e:=take1 qsv (l:=oneR (gt m t) c) (i:=i) (by simp;omega)
   rw [gt_oneR (by omega)] at e
   exact ⟨⟨by simp [hC],by omega⟩,i+1,by omega,by omega,Le.syn (by simp (disch:=omega) [leS,hC,w64,e])⟩
  ·obtain rfl:i=w:=by omega
   have e:((oneR (gt m t) c).map qsv).take i=(oneR (gt m t) c).map qsv:=List.take_of_length_le (by simp;omega)
   simp (disch:=omega) [wt,e]
   repeat (refine And.intro (by omega) ?_)
   refine CodeJ.frz 0 rfl (by simp) ?_
   have sq:sbL 0 ((oneR (gt m t) c).map qsv) ((oneR (gt m t) c).map qsv)=(oneR (gt m t) c).map qsv:=sbL_pure _ _ _ (by simp)
   simp [frzS,tset,e,sq]
   refine CodeJ.nil 13 1 rfl ?_
   simp
   refine CodeJ.loopL (ι:=Nat) (fun j=>⟨76,[(0,.ro (m.map qlv)),(1,iv k),(2,iv t),(3,iv c),(10,.ro ((oneR (gt m t) c).map qsv)),(13,.view 1 0 j),(14,iv j)],[some ⟨4,(oneR (gt m t) c).map qsv,true⟩,some ⟨1,((redStep m k t c).take j).map qlv,false⟩]⟩)
    (fun j=>j≤n) (fun j=>n - j) 0 (by simp) ?_ ?_
   ·simp [leS,hC];omega
   ·rintro j hj
    by_cases hjn:j<n
    ·have lj:=lget_qlv (l:=m) (i:=j) (by omega)
     have wk:=h.r k hk
     have wj:=h.r j hjn
     have e1:=take1 qlv (l:=redStep m k t c) (i:=j) (by simp;omega)
     rw [gt_redStep (by omega)] at e1
     by_cases jk:j=k
     ·subst jk
      rw [if_pos rfl] at e1
      by_cases jt:j=t
      ·subst jt
       simp (disch:=omega) [hjn,hl,lj,w64]
       repeat (refine And.intro (by omega) ?_)
       exact ⟨⟨by simp [hC],by omega⟩,j+1,by omega,by omega,Le.syn (by simp (disch:=omega) [leS,hC,w64,e1])⟩
      ·have jt':¬(j:Int)=t:=by omega
       simp (disch:=omega) [hjn,hl,lj,w64,jt']
       repeat (refine And.intro (by omega) ?_)
       exact ⟨⟨by simp [hC],by omega⟩,j+1,by omega,by omega,Le.syn (by simp (disch:=omega) [leS,hC,w64,e1])⟩
     ·have jk':¬(j:Int)=k:=by omega
      have sw:=swp_w h hk ht hjn
      rw [if_neg jk] at e1
      have lc2:=lget_q (l:=swp m k t j) (i:=c) (by omega)
      have wo:=rWithout_ok (swp m k t j) (oneR (gt m t) c) (gt (swp m k t j) c) (by omega) (by omega) (fun x hx=>qok_of (sw.2 x (by omega)) (by omega)) (fun x hx=>qok_of (ow.2 x (by omega)) (by omega)) (qok_of (sw.2 c hc) (by omega))
       (fun x hx=>qok_of (qw_mul (ow.2 x (by omega)) (sw.2 c hc) (by omega)) (by omega))
      by_cases jt:j=t
      ·subst jt
       have es:swp m k j j=gt m k:=by unfold swp;rw [if_neg jk,if_pos rfl]
       rw [es] at lc2 wo e1
       simp (disch:=omega) [hjn,hl,lj,lk,w64,jk',lc2]
       repeat (refine And.intro (by omega) ?_)
       refine callS (wo) (by simp) ?_
       simp (disch:=omega) [hjn,w64]
       repeat (refine And.intro (by omega) ?_)
       exact ⟨⟨by simp [hC],by omega⟩,j+1,by omega,by omega,Le.syn (by simp (disch:=omega) [leS,hC,w64,e1])⟩
      ·have jt':¬(j:Int)=t:=by omega
       have es:swp m k t j=gt m j:=by unfold swp;rw [if_neg jk,if_neg jt]
       rw [es] at lc2 wo e1
       simp (disch:=omega) [hjn,hl,lj,w64,jk',jt',lc2]
       repeat (refine And.intro (by omega) ?_)
       refine callS (wo) (by simp) ?_
       simp (disch:=omega) [hjn,w64]
       repeat (refine And.intro (by omega) ?_)
       exact ⟨⟨by simp [hC],by omega⟩,j+1,by omega,by omega,Le.syn (by simp (disch:=omega) [leS,hC,w64,e1])⟩
    ·obtain rfl:j=n:=by omega
     have e1:((redStep m k t c).map qlv).take j=(redStep m k t c).map qlv:=List.take_of_length_le (by simp;omega)
     simp (disch:=omega) [hl,e1]
     repeat (refine And.intro (by omega) ?_)
def upP (m:List (List Rat)) (c n j:Nat) (x:Int):Prop:=(x = -1∧∀i,j≤i→i<n→gt (gt m i) c=0)∨∃t:Nat,x=t∧j≤t∧t<n∧gt (gt m t) c≠0∧∀i,j≤i→i<t→gt (gt m i) c=0
def natV (i:Nat):SV:=iv i
@[simp] theorem natV_iv (i:Nat):natV i=iv i:=rfl
theorem rReduced_ok (a:List (List Rat)) (n w:Nat) (h:Tw n w 2200 a) (hn:n≤7) (hw:w≤40) (he:wide a=w):PureF Tryz.prog 88 [.ro (a.map qlv)] (.tup [.ro ((redAt a w).1.map qlv),.ro ((redAt a w).2.map natV)]):=by
 have hl:=h.l
 have gw:=rWide_ok a (by omega)
 rw [he] at gw
 refine pure_enter Tryz.func88 rfl (by simp) (fun C hC=>?_)
 simp (disch:=omega) [hl]
 repeat (refine And.intro (by omega) ?_)
 refine callS (gw) (by simp) ?_
 simp (disch:=omega) [hl]
 repeat (refine And.intro (by omega) ?_)
 refine CodeJ.frz 0 rfl (by simp) ?_
 have sq:sbL 0 (a.map qlv) (a.map qlv)=a.map qlv:=sbL_pure _ _ _ (by simp)
 simp [frzS,tset,sq]
 refine CodeJ.nil 5 1 rfl ?_
 simp
 refine CodeJ.loopL (ι:=Nat) (fun c=>⟨63,[(4,.ro ((redAt a c).1.map qlv)),(5,.view 1 0 (redAt a c).2.length),(6,iv w),(7,iv c)],[some ⟨1,a.map qlv,true⟩,some ⟨1,(redAt a c).2.map natV,false⟩]⟩)
  (fun c=>c≤w) (fun c=>w - c) 0 (by simp) ?_ ?_
 ·simp [leS,hC,redAt,←hl,List.take_of_length_le]
 ·rintro c hc
  obtain ⟨tw,le⟩:=redAt_ok h c hc
  have nx:redAt a (c+1)=redS (redAt a c) c:=rfl
  have full:=redAt_full (a:=a) (c:=c)
  generalize hs:redAt a c=s at *
  have sl:=tw.l
  have tk:(s.2.map natV).take s.2.length=s.2.map natV:=List.take_of_length_le (by simp)
  have p5:=pow5_le7 le hn
  have p1:1≤2200*5^s.2.length:=by have:=Nat.pow_pos (n:=s.2.length) (show 0<5 by omega);omega
  by_cases hcw:c<w
  ·by_cases hf:s.2.length<n
   ·simp (disch:=omega) [hcw,hf,sl]
    repeat (refine And.intro (by omega) ?_)
    refine CodeJ.loopL (ι:=Nat × Int) (fun ⟨j,x⟩=>⟨63,[(4,.ro (s.1.map qlv)),(5,.view 1 0 s.2.length),(6,iv w),(7,iv c),(8,iv s.2.length),(9,iv x),(10,iv ((j:Int) - 1))],[some ⟨1,a.map qlv,true⟩,some ⟨1,s.2.map natV,false⟩]⟩)
     (fun ⟨j,x⟩=>s.2.length≤j∧j≤n∧upP s.1 c n j x) (fun ⟨j,x⟩=>j) (n, -1) ⟨by omega,by omega,.inl ⟨rfl,fun i h1 h2=>by omega⟩⟩ ?_ ?_
    ·simp (disch:=omega) [leS,hC,w64]
    ·rintro ⟨j,x⟩ ⟨h1,h2,h3⟩
     by_cases hj:s.2.length<j
     ·obtain ⟨j,rfl⟩:∃i,j=i+1:=⟨j - 1,by omega⟩
      have e1:((j+1:Nat):Int) - 1=j:=by omega
      have hj':s.2.length≤j:=by omega
      have lj:=lget_qlv (l:=s.1) (i:=j) (by omega)
      have wj:=tw.r j (by omega)
      have lc:=lget_q (l:=gt s.1 j) (i:=c) (by omega)
      simp only [e1]
      simp (disch:=omega) [hj',lj,sl,lc]
      repeat (refine And.intro (by omega) ?_)
      refine callS (pSign_ok (gt (gt s.1 j) c)) (by simp) ?_
      simp (disch:=omega) [w64,Int.sign_eq_zero_iff_zero,Rat.num_eq_zero]
      repeat (refine And.intro (by omega) ?_)
      refine ⟨fun z=>⟨j,j,⟨by omega,by omega,.inr ⟨j,rfl,by omega,by omega,z,fun i g1 g2=>by omega⟩⟩,by omega,Le.syn (by simp (disch:=omega) [leS,hC,w64])⟩,fun z=>⟨j,x,⟨by omega,by omega,?_⟩,by omega,Le.syn (by simp (disch:=omega) [leS,hC,w64])⟩⟩
      rcases h3 with ⟨x1,x2⟩ | ⟨t,rfl,t1,t2,t3,t4⟩
      ·refine .inl ⟨x1,fun i g1 g2=>?_⟩
       by_cases ij:i=j
       ·rw [ij];exact z
       ·exact x2 i (by omega) g2
      ·refine .inr ⟨t,rfl,by omega,t2,t3,fun i g1 g2=>?_⟩
       by_cases ij:i=j
       ·rw [ij];exact z
       ·exact t4 i (by omega) g2
     ·obtain rfl:j=s.2.length:=by omega
      have e1:¬(s.2.length:Int)≤(s.2.length:Int) - 1:=by omega
      rcases h3 with ⟨rfl,x2⟩ | ⟨t,rfl,t1,t2,t3,t4⟩
      ·rw [redS_none (fun i g1 g2=>x2 i g1 (by omega))] at nx
       simp (disch:=omega) [e1]
       repeat (refine And.intro (by omega) ?_)
       exact ⟨c+1,by omega,by omega,by rw [nx];exact Le.syn (by simp (disch:=omega) [leS,hC,w64])⟩
      ·have e2:¬((t:Int)<0):=by omega
       rw [redS_piv (t:=t) (by omega) ⟨t1,by omega,t3,t4⟩] at nx
       simp (disch:=omega) [e1,e2]
       repeat (refine And.intro (by omega) ?_)
       refine callS (rReduce_ok tw (by omega) (by omega) p1 (by omega) hf t2 hcw t3) (by simp) ?_
       simp (disch:=omega) [w64]
       repeat (refine And.intro (by omega) ?_)
       refine ⟨⟨by simp [hC],by omega⟩,c+1,by omega,by omega,?_⟩
       rw [nx]
       exact Le.syn (by simp (disch:=omega) [leS,hC,w64])
   ·have e:=full (by omega) (w - c)
    rw [show c+(w - c)=w by omega] at e
    rw [e]
    simp (disch:=omega) [hcw,hf,sl,tk]
    repeat (refine And.intro (by omega) ?_)
  ·obtain rfl:c=w:=by omega
   rw [hs]
   simp [tk]
end Go.Proofs
namespace Go.Mx
open Go Go.Sv Go.Pl Go.Proofs Go.Tb Go.Ut
def subP (r o:List Rat) (y:Rat) (i:Nat):List Rat:=(List.range r.length).map fun j=>if j<i then gt r j - gt o j*y else gt r j
@[simp] theorem subP_len (r o:List Rat) (y:Rat) (i:Nat):(subP r o y i).length=r.length:=by simp [subP]
end Go.Mx
namespace Go.Proofs
open Go.Sv Go Go.Tb Go.Pl Go.Ut Go.Mx
end Go.Proofs
namespace Go.Tb
open Go Go.Sv Go.Pl Go.Proofs
def textsT:Pt:=.sl .str
theorem sum_mem {α:Type} {f:α→Nat}:∀{l:List α} {x:α},x∈l→f x≤(l.map f).sum
 | y::l,x,h=>by
  simp only [List.map_cons,List.sum_cons]
  rcases List.mem_cons.1 h with rfl | h
  ·omega
  ·have:=sum_mem (f:=f) h
   omega
theorem sum_len {α:Type} {f:α→Nat} (hf:∀x,1≤f x):∀{l:List α},l.length≤(l.map f).sum
 | []=>by simp
 | y::l=>by
  have:=sum_len hf (l:=l)
  have:=hf y
  simp only [List.map_cons,List.sum_cons,List.length_cons]
  omega
theorem texts_sm {x:textsT.T} (h:textsT.bk x≤1048576):SmN (x:List ByteArray):=by
 have h':(List.map Pt.str.bk (x:List ByteArray)).sum+1≤1048576:=h
 refine ⟨?_,fun s hs=>?_⟩
 ·have:=sum_len (f:=Pt.str.bk) (fun y=>by show 1≤ByteArray.size y+1;omega) (l:=(x:List ByteArray))
  exact Nat.le_trans this (by omega)
 ·have:Pt.str.bk s≤_:=sum_mem (f:=Pt.str.bk) hs
  have e:Pt.str.bk s=s.size+1:=rfl
  omega
end Go.Tb

