/- A text of the prover's own. -/
import Derived.Test.YtnimjdcaajmfcaaGreatDoorUSu
import Derived.Test.YtnimjdcaajmfcaaGreatDoorUKi
import Derived.Test.YtnimjdcaajmfcaaGreatDoorUVr
set_option maxRecDepth 10000
namespace Go.Proofs
open Go.Sv Go Go.Tb Go.Pl Go.Ut Go.Mx Go.Li Go.Dt Go.Sx
theorem rCell_ok (p:Prob) (fw:Few p) (n m i k:Nat) (hn:p.cols.length=n) (hm:p.rows.length=m) (hi:i<m) (hk:k≤1000) (h14:n+m≤1000):PureF Tryz.prog 87 [probP p,iv i,iv k] (qsv (cellR p n i k)):=by
 have nt:=fw.nt i (by omega)
 refine pure_enter Tryz.func87 rfl (by simp) (fun C hC=>?_)
 by_cases h1:k<n
 ·have e:cellR p n i k=entT (gt p.rows i).terms k:=if_pos h1
  simp (disch:=omega) [hn,hm,h1,hi,lget_rowP]
  repeat (refine And.intro (by omega) ?_)
  refine callS (rEntry_ok (gt p.rows i) nt k (by omega)) (by simp) ?_
  simp [e]
 ·by_cases h2:k=n+i
  ·have e:cellR p n i k = -1:=by unfold cellR;rw [if_neg h1,if_pos h2]
   have h2':(k:Int)=(n:Int)+i:=by omega
   simp (disch:=omega) [hn,hm,h1,h2',w64]
   repeat (refine And.intro (by omega) ?_)
   intro _
   refine callS (pInt_ok (-1) (by omega) (by omega)) (by simp) ?_
   simp [e]
  ·have e:cellR p n i k=0:=by unfold cellR;rw [if_neg h1,if_neg h2]
   have h2':¬(k:Int)=(n:Int)+i:=by omega
   simp (disch:=omega) [hn,hm,h1,h2',w64]
   repeat (refine And.intro (by omega) ?_)
   refine callS (zeroP) (by simp) ?_
   simp [e]
theorem rBounds_ok (p:Prob) (n m N k:Nat) (hn:p.cols.length=n) (hm:p.rows.length=m) (hN:n+m=N) (hk:k<N) (h14:N≤1000):PureF Tryz.prog 86 [probP p,iv k] (.tup [boP (gt (lowR p m) k),boP (gt (highR p m) k)]):=by
 rw [gt_lowR hn hm (by omega),gt_highR hn hm (by omega)]
 refine pure_enter Tryz.func86 rfl (by simp) (fun C hC=>?_)
 by_cases h1:k<n
 ·have lc:=lget_colP (l:=p.cols) (i:=k) (by omega)
  simp (disch:=omega) [hn,h1]
  repeat (refine And.intro (by omega) ?_)
  refine CodeJ.draw (.qs [0,1,2,3,4,5,6]<|.q 7 [1]<|.qs [8,9,10]<|.q 11 [1]<|.l 12 [1]<|.l 13 [2]<|.nil) (by kernel_rfl) (by kernel_rfl) (by simp) ?_
  simp (disch:=omega) [hn,h1,lc]
  repeat (refine And.intro (by omega) ?_)
  exact ⟨Sub_self _ _ rfl,Sub_self _ _ rfl⟩
 ·have lr:=lget_rowP (l:=p.rows) (i:=k - n) (by omega)
  have e:IntKind.i64.wrap ((k:Int) - n)=((k - n:Nat):Int):=by simp (disch:=omega) [w64];omega
  simp (disch:=omega) [hn,h1]
  repeat (refine And.intro (by omega) ?_)
  refine CodeJ.draw (.qs [0,1,2,3,4,5,6,7,8]<|.q 9 [1]<|.qs [10,11,12,13,14]<|.q 15 [1]<|.l 16 [1]<|.l 17 [2]<|.nil) (by kernel_rfl) (by kernel_rfl) (by simp) ?_
  simp (disch:=omega) [hn,h1,hm,e,lr]
  repeat (refine And.intro (by omega) ?_)
  exact ⟨Sub_self _ _ rfl,Sub_self _ _ rfl⟩
def frP (b:List Nat) (By:List (List Rat)) (x co:List Rat):SV:=.agg [.ro (b.map natV),.ro (By.map qlv),.ro (x.map qsv),.ro (co.map qsv)]
def FrW (By:List (List Rat)) (x co:List Rat):Prop:=(∀r,r∈By→OKl r)∧OKl x∧OKl co
def FrP (c:Tc) (K:(Nat→Rat)→Prop) (cst:Nat→Rat) (w:List Int) (y:SV):Prop :=
 (IsB c K w∧∃By x co,IsF c K w cst By x co∧FrW By x co∧y=.tup [frP (bL w c.N) By x co,bov true]) ∨
 (¬IsB c K w∧∃l:List Nat,y=.tup [.agg [.ro (l.map natV),.ro [],.ro [],.ro []],bov false])
noncomputable def rfBody:Code:=Tryz.f34.body.getD .skip
def rfM (p:Prob) (w:List Int) (k:Nat):Tab:=[some ⟨7,[probP p],false⟩,some ⟨4,[.agg [.val (.slice none 0 0),.val (.slice none 0 0),.val (.slice none 0 0),.val (.slice none 0 0)]],false⟩,some ⟨4,[.agg [.view 3 0 (cnt w k),.val (.slice none 0 0),.val (.slice none 0 0),.val (.slice none 0 0)]],false⟩,some ⟨1,(bL w k).map natV,false⟩]
def rfF (w:List Int) (n m:Nat):List (Nat × SV):=[(1,.ro (w.map iv)),(2,.ptr 0 0 0),(4,.ptr 1 0 0),(5,bov false),(6,iv n),(7,iv m),(8,.ptr 2 0 0)]
theorem rfNo0 {c:Tc} {K:(Nat→Rat)→Prop} {cst:Nat→Rat} {w:List Int} {M:Tab} (hno:¬IsB c K w) :
  fin M (.tup [.agg [.val (.slice none 0 0),.val (.slice none 0 0),.val (.slice none 0 0),.val (.slice none 0 0)],.val (.bool false)]) (FrP c K cst w) :=
 ⟨.tup [.agg [.ro [],.ro [],.ro [],.ro []],.val (.bool false)],by simp,.inr ⟨hno,[],rfl⟩⟩
theorem rfNo {c:Tc} {K:(Nat→Rat)→Prop} {cst:Nat→Rat} {w:List Int} {k:Nat} {M:Tab} (hno:¬IsB c K w) (hM:tget M 3=some ⟨1,(bL w k).map natV,false⟩) :
  fin M (.tup [.agg [.view 3 0 (cnt w k),.val (.slice none 0 0),.val (.slice none 0 0),.val (.slice none 0 0)],.val (.bool false)]) (FrP c K cst w):=by
 refine ⟨.tup [.agg [.ro ((bL w k).map natV),.ro [],.ro [],.ro []],.val (.bool false)],?_,.inr ⟨hno,bL w k,rfl⟩⟩
 have tk:((bL w k).map natV).take (cnt w k)=(bL w k).map natV:=List.take_of_length_le (by simp [bL_len])
 simp [hM,tk,bL_len]
theorem rfA (p:Prob) (n m N:Nat) (hn:p.cols.length=n) (hm:p.rows.length=m) (hN:n+m=N) (h14:N≤14) (w:List Int) (hwl:w.length≤1048576) {C:Ctx} (hC:C.fx=[])
  (hQ:w.length=N→(∀k,k<N→Sx.fit (frC p n m N) w k)→cnt w N=m→CodeJ Tryz.prog C (dropC 8 rfBody) ⟨162,rfF w n m++[(9,.val (.slice none 0 0))],rfM p w N⟩ (retQ Tryz.prog [.cell 4 91,.tmp 5] (FrP (frC p n m N) (Kp p n m) (cstP p n) w))) :
  CodeJ Tryz.prog C rfBody ⟨162,[(0,probP p),(1,.ro (w.map iv))],[]⟩ (retQ Tryz.prog [.cell 4 91,.tmp 5] (FrP (frC p n m N) (Kp p n m) (cstP p n) w)):=by
 refine CodeJ.cutAt 8 (fun st=>st=⟨162,rfF w n m++[(9,.val (.slice none 0 0))],rfM p w N⟩∧w.length=N∧(∀k,k<N→Sx.fit (frC p n m N) w k)∧cnt w N=m) ?_ ?_
 rotate_left 1
 ·rintro st ⟨rfl,g1,g2,g3⟩
  exact hQ g1 g2 g3
 clear hQ
 simp only [rfBody,Tryz.f34,Option.getD_some,takeC_succ,takeC_zero]
 have wr:IntKind.i64.wrap ((n:Int)+m)=(N:Int):=by simp (disch:=omega) [w64];omega
 have hlow:∀k,gt (frC p n m N).low k=gt (lowR p m) k:=fun _=>rfl
 have hhigh:∀k,gt (frC p n m N).high k=gt (highR p m) k:=fun _=>rfl
 by_cases hl:w.length=N
 ·simp (disch:=omega) [hn,hm,wr,hl]
  repeat (refine And.intro (by omega) ?_)
  refine CodeJ.le (Le.nilCell 2 0 1 rfl rfl rfl rfl (by simp)) ?_
  simp [tset,lset]
  refine CodeJ.loopL (ι:=Nat) (fun k=>⟨162,rfF w n m++[(9,.val (.slice none 0 0)),(10,iv k)],rfM p w k⟩)
   (fun k=>k≤N∧∀q,q<k→Sx.fit (frC p n m N) w q) (fun k=>N - k) 0 ⟨by omega,fun q hq=>by omega⟩ ?_ ?_
  ·simp [leS,rfF,rfM,leM_self,Sx.cnt,bL]
  ·rintro k ⟨hk,hq⟩
   simp only [rfF,rfM,List.cons_append,List.nil_append]
   by_cases hkN:k<N
   ·have lw:=lget_iv (l:=w) (i:=k) (by omega)
    have nx:Sx.fit (frC p n m N) w k→∀q,q<k+1→Sx.fit (frC p n m N) w q:=fun hf q hqk=>by
     by_cases e:q=k
     ·rw [e];exact hf
     ·exact hq q (by omega)
    have cs:cnt w (k+1)=cnt w k+if gt w k=1 then 1 else 0:=rfl
    have bs:=bL_succ w k
    have no:¬Sx.fit (frC p n m N) w k→¬IsB (frC p n m N) (Kp p n m) w:=fun h hB=>h (hB.f k hkN)
    unfold Sx.fit at no
    rw [hlow,hhigh] at no
    have yes:=nx
    unfold Sx.fit at yes
    rw [hlow,hhigh] at yes
    simp (disch:=omega) [hkN,wr]
    repeat (refine And.intro (by omega) ?_)
    refine callS (rBounds_ok p n m N k hn hm hN hkN (by omega)) (by simp) ?_
    by_cases e1:gt w k=1
    ·rw [e1] at lw
     rw [if_pos e1] at cs bs
     simp (disch:=omega) [lw,hl,hkN]
     repeat (refine And.intro (by omega) ?_)
     refine ⟨⟨by simp [hC],(bL_len w k).symm,by have:=cnt_le w k;rw [bL_len];omega⟩,k+1,⟨by omega,nx (.inl e1)⟩,by omega,?_⟩
     rw [cs,bs,List.map_append]
     exact Le.syn (by simp (disch:=omega) [leS,hC,w64,natV])
    ·rw [if_neg e1] at cs bs
     rw [Nat.add_zero] at cs
     rw [List.append_nil] at bs
     have ck:=cnt_le w k
     by_cases e2:gt w k=2
     ·rw [e2] at lw
      by_cases hh:(gt (lowR p m) k).has=true
      ·simp (disch:=omega) [lw,hl,hkN,hh,w64]
       repeat (refine And.intro (by omega) ?_)
       refine ⟨k+1,⟨by omega,nx (.inr (.inl ⟨e2,by rw [hlow];exact hh⟩))⟩,by omega,?_⟩
       rw [cs,bs]
       exact Le.syn (by simp (disch:=omega) [leS,hC,w64])
      ·simp (disch:=omega) [lw,hl,hkN,hh,w64]
       repeat (refine And.intro (by omega) ?_)
       exact rfNo (no (by rintro (q | ⟨q,r⟩ | ⟨q,r⟩ | ⟨q,r,t⟩)<;>first | omega | simp_all)) rfl
     ·by_cases e3:gt w k=3
      ·rw [e3] at lw
       by_cases hh:(gt (highR p m) k).has=true
       ·simp (disch:=omega) [lw,hl,hkN,hh,w64]
        repeat (refine And.intro (by omega) ?_)
        refine ⟨k+1,⟨by omega,nx (.inr (.inr (.inl ⟨e3,by rw [hhigh];exact hh⟩)))⟩,by omega,?_⟩
        rw [cs,bs]
        exact Le.syn (by simp (disch:=omega) [leS,hC,w64])
       ·simp (disch:=omega) [lw,hl,hkN,hh,w64]
        repeat (refine And.intro (by omega) ?_)
        exact rfNo (no (by rintro (q | ⟨q,r⟩ | ⟨q,r⟩ | ⟨q,r,t⟩)<;>first | omega | simp_all)) rfl
      ·by_cases e0:gt w k=0
       ·rw [e0] at lw
        by_cases hh:(gt (lowR p m) k).has=true
        ·simp (disch:=omega) [lw,hl,hkN,hh,w64]
         repeat (refine And.intro (by omega) ?_)
         exact rfNo (no (by rintro (q | ⟨q,r⟩ | ⟨q,r⟩ | ⟨q,r,t⟩)<;>first | omega | simp_all)) rfl
        ·by_cases hh2:(gt (highR p m) k).has=true
         ·simp (disch:=omega) [lw,hl,hkN,hh,hh2,w64]
          repeat (refine And.intro (by omega) ?_)
          exact rfNo (no (by rintro (q | ⟨q,r⟩ | ⟨q,r⟩ | ⟨q,r,t⟩)<;>first | omega | simp_all)) rfl
         ·simp (disch:=omega) [lw,hl,hkN,hh,hh2,w64]
          repeat (refine And.intro (by omega) ?_)
          refine ⟨k+1,⟨by omega,nx (.inr (.inr (.inr ⟨e0,by rw [hlow];simpa using hh,by rw [hhigh];simpa using hh2⟩)))⟩,by omega,?_⟩
          rw [cs,bs]
          exact Le.syn (by simp (disch:=omega) [leS,hC,w64])
       ·simp (disch:=omega) [lw,hl,hkN,e1,e2,e3,e0,w64]
        repeat (refine And.intro (by omega) ?_)
        exact rfNo (no (by rintro (q | ⟨q,r⟩ | ⟨q,r⟩ | ⟨q,r,t⟩)<;>first | omega | simp_all)) rfl
   ·obtain rfl:k=N:=by omega
    have ck:=cnt_le w k
    simp (disch:=omega) [wr]
    repeat (refine And.intro (by omega) ?_)
    refine ⟨fun q=>?_,fun q=>?_⟩
    ·exact rfNo (fun hB=>q (by have:=hB.n;exact_mod_cast this)) rfl
    ·exact ⟨_,⟨rfl,hq,by omega⟩,rfl,by simp [leF,Go.Sv.get,rfF],leM_self _,.inl rfl⟩
 ·have hl':¬((w.length:Nat):Int)=(N:Int):=by omega
  simp (disch:=omega) [hn,hm,wr,hl']
  repeat (refine And.intro (by omega) ?_)
  exact rfNo0 fun hB=>hl hB.l
end Go.Proofs
namespace Go.Sx
open Go Go.Sv Go.Pl Go.Proofs Go.Tb Go.Ut Go.Mx Go.Li Go.Dt
theorem lset_qs {l:List Rat} {i:Nat} {x:Rat}:lset (l.map qsv) i (qsv x)=(l.set i x).map qsv:=by rw [lset_eq,List.map_set]
def bD (m:Nat) (R:List (List Rat)) (i k:Nat):Rat:=if k<m then 0 else -(gt (gt R i) k)
def byM (w:List Int) (N m:Nat) (R:List (List Rat)) (i:Nat):Nat→List SV
 | 0=>List.replicate N (rsv 0)
 | k+1=>(byM w N m R i k).set (gt (oL w N) k) (qsv (bD m R i k))
@[simp] theorem byM_len (w:List Int) (N m:Nat) (R:List (List Rat)) (i:Nat):∀k,(byM w N m R i k).length=N
 | 0=>by simp [byM]
 | k+1=>by simp only [byM,List.length_set];exact byM_len w N m R i k
theorem byM_at {w:List Int} {N m:Nat} {R:List (List Rat)} {i:Nat}:∀k,k≤N→∀j,j<N→(byM w N m R i k)[gt (oL w N) j]?=some (if j<k then qsv (bD m R i j) else rsv 0)
 | 0,_,j,hj=>by
  have:=oL_lt (w:=w) hj
  simp [byM,List.getElem?_replicate,this]
 | k+1,hk,j,hj=>by
  have h1:=oL_lt (w:=w) (N:=N) (k:=k) (by omega)
  simp only [byM]
  by_cases e:k=j
  ·subst e
   rw [List.getElem?_set_self (by simpa using h1),if_pos (by omega)]
  ·rw [List.getElem?_set_ne (fun q=>e (oL_inj (by omega) hj q)),byM_at k (by omega) j hj]
   by_cases q:j<k
   ·rw [if_pos q,if_pos (by omega)]
   ·rw [if_neg q,if_neg (by omega)]
theorem byD_len (w:List Int) (N m:Nat) (R:List (List Rat)) (i:Nat):(byD w N m R i).length=N:=by simp [byD]
theorem byM_end (w:List Int) (N m:Nat) (R:List (List Rat)) (i:Nat):byM w N m R i N=(byD w N m R i).map qsv:=by
 refine List.ext_getElem? fun q=>?_
 by_cases hq:q<N
 ·obtain ⟨j,hj,rfl⟩:=oL_has (w:=w) hq
  rw [byM_at N (Nat.le_refl _) j hj,if_pos hj,List.getElem?_map]
  have e:=gt_byD (w:=w) (N:=N) (m:=m) (R:=R) (i:=i) hj
  have l:=byD_len w N m R i
  rw [List.getElem?_eq_getElem (by rw [l];exact hq)]
  rw [Option.map_some,gt_get (by rw [l];exact hq),e];rfl
 ·rw [List.getElem?_eq_none (by simp;omega),List.getElem?_eq_none (by simp [byD_len];omega)]
def sD (f:Nat→Rat) (w:List Int) (N m:Nat) (R:List (List Rat)) (i k:Nat):Rat:=sumR (fun k=>bD m R i k*f (gt (oL w N) k)) k
def xS (f:Nat→Rat) (w:List Int) (N m:Nat) (R:List (List Rat)):Nat→List Rat
 | 0=>(List.range N).map f
 | i+1=>(xS f w N m R i).set (gt (bL w N) i) (sD f w N m R i N)
@[simp] theorem xS_len (f:Nat→Rat) (w:List Int) (N m:Nat) (R:List (List Rat)):∀i,(xS f w N m R i).length=N
 | 0=>by simp [xS]
 | i+1=>by simp only [xS,List.length_set];exact xS_len f w N m R i
theorem xS_no {f:Nat→Rat} {w:List Int} {N m:Nat} {R:List (List Rat)} (hm:cnt w N=m) {q:Nat} (hq:q<N) (hw:gt w q≠1):∀i,i≤m→gt (xS f w N m R i) q=f q
 | 0,_=>by simp only [xS];rw [gt_range _ hq]
 | i+1,h=>by
  simp only [xS]
  rw [gt_set (by simpa using hq),if_neg (fun e=>hw (by rw [←e];exact (bL_one (by omega)).2))]
  exact xS_no hm hq hw i (by omega)
theorem xS_b {f:Nat→Rat} {w:List Int} {N m:Nat} {R:List (List Rat)} (hm:cnt w N=m) {r:Nat}:∀i,i≤m→r<i→gt (xS f w N m R i) (gt (bL w N) r)=sD f w N m R r N
 | 0,_,hr=>by omega
 | i+1,h,hr=>by
  simp only [xS]
  have hb:=(bL_one (w:=w) (N:=N) (k:=r) (by omega)).1
  rw [gt_set (by simpa using hb)]
  by_cases e:i=r
  ·subst e;rw [if_pos rfl]
  ·rw [if_neg (fun q=>e (bL_inj (by omega) (by omega) q))]
   exact xS_b hm i (by omega) (by omega)
def coS (f:Nat→Rat) (w:List Int) (N m:Nat) (R:List (List Rat)) (i q:Nat):Rat:=if gt w q=1 then 0 else f q+sumR (fun r=>gt (byD w N m R r) q*f (gt (bL w N) r)) i
def coL (f:Nat→Rat) (w:List Int) (N m:Nat) (R:List (List Rat)) (i:Nat):Nat→List Rat
 | 0=>(List.range N).map (coS f w N m R i)
 | k+1=>(coL f w N m R i k).set (gt (oL w N) k) (gt (coL f w N m R i k) (gt (oL w N) k)+bD m R i k*f (gt (bL w N) i))
@[simp] theorem coL_len (f:Nat→Rat) (w:List Int) (N m:Nat) (R:List (List Rat)) (i:Nat):∀k,(coL f w N m R i k).length=N
 | 0=>by simp [coL]
 | k+1=>by simp only [coL,List.length_set];exact coL_len f w N m R i k
theorem coL_at {f:Nat→Rat} {w:List Int} {N m:Nat} {R:List (List Rat)} (hm:cnt w N=m) {i:Nat}:∀k,k≤N→∀j,j<N→gt (coL f w N m R i k) (gt (oL w N) j)=coS f w N m R (if j<k then i+1 else i) (gt (oL w N) j)
 | 0,_,j,hj=>by
  simp only [coL]
  rw [gt_range _ (oL_lt hj),if_neg (by omega)]
 | k+1,hk,j,hj=>by
  simp only [coL]
  rw [gt_set (by simp;exact oL_lt hj)]
  by_cases e:k=j
  ·subst e
   rw [if_pos rfl,coL_at hm k (by omega) k hj,if_neg (by omega),if_pos (by omega)]
   unfold coS
   by_cases hkm:k<m
   ·rw [if_pos (by rw [oL_at (by omega)];exact (bL_one (by omega)).2),if_pos (by rw [oL_at (by omega)];exact (bL_one (by omega)).2)]
    unfold bD;rw [if_pos hkm];grind
   ·have hn:=oL_no (w:=w) (N:=N) (k:=k) (by omega) hj
    rw [if_neg hn,if_neg hn]
    simp only [sumR]
    rw [gt_byD hj]
    unfold bD;grind
  ·rw [if_neg (fun q=>e (oL_inj (by omega) hj q)),coL_at hm k (by omega) j hj]
   by_cases q:j<k
   ·rw [if_pos q,if_pos (by omega)]
   ·rw [if_neg q,if_neg (by omega)]
theorem coL_end {f:Nat→Rat} {w:List Int} {N m:Nat} {R:List (List Rat)} (hm:cnt w N=m) (i:Nat):coL f w N m R i N=coL f w N m R (i+1) 0:=ext_gt' (by simp) fun q hq=>by
 have hq:q<N:=by simpa using hq
 obtain ⟨j,hj,rfl⟩:=oL_has (w:=w) hq
 rw [coL_at hm N (Nat.le_refl _) j hj,coL_at hm 0 (by omega) j hj,if_pos hj,if_neg (by omega)]
theorem coL_skip {f:Nat→Rat} {w:List Int} {N m:Nat} {R:List (List Rat)} {i k:Nat} (hk:k<N) (h:bD m R i k*f (gt (bL w N) i)=0):coL f w N m R i (k+1)=coL f w N m R i k:=by
 simp only [coL]
 rw [h,Rat.add_zero]
 refine ext_gt' (by simp) fun q hq=>?_
 have hq:q<N:=by simpa using hq
 rw [gt_set (by simpa using hq)]
 split
 ·rename_i e;rw [e]
 ·rfl
theorem bD_w {m N W:Nat} {R:List (List Rat)} (h1:1≤W) (hR:∀i k,i<m→k<N→qw W (gt (gt R i) k)) {i k:Nat} (hi:i<m) (hk:k<N):qw W (bD m R i k):=by
 unfold bD
 split
 ·exact qw_zero _ h1
 ·exact qw_neg (hR i k hi hk)
theorem sD_w {f:Nat→Rat} {w:List Int} {m N W:Nat} {R:List (List Rat)} (h1:1≤W) (hR:∀i k,i<m→k<N→qw W (gt (gt R i) k)) (hf:∀k,k<N→qw 2200 (f k)) {i:Nat} (hi:i<m) {k:Nat} (hk:k≤N):qw (1+k*(W+2200+1)) (sD f w N m R i k) :=
 qw_sumX k fun q hq=>qw_mul (bD_w h1 hR hi (by omega)) (hf _ (oL_lt (by omega))) (by omega)
theorem coS_w {f:Nat→Rat} {w:List Int} {m N W:Nat} {R:List (List Rat)} (h1:1≤W) (hm:cnt w N=m) (hR:∀i k,i<m→k<N→qw W (gt (gt R i) k)) (hf:∀k,k<N→qw 2200 (f k)) {i q:Nat} (hi:i≤m) (hq:q<N):qw (2202+i*(W+2200+1)) (coS f w N m R i q):=by
 unfold coS
 split
 ·exact qw_zero _ (by omega)
 ·have h2:qw (1+i*(W+2200+1)) (sumR (fun r=>gt (byD w N m R r) q*f (gt (bL w N) r)) i):=qw_sumX i fun r hr=>by
   have hb:=(bL_one (w:=w) (N:=N) (k:=r) (by omega)).1
   have h3:qw W (gt (byD w N m R r) q):=by
    obtain ⟨j,hj,rfl⟩:=oL_has (w:=w) hq
    rw [gt_byD hj]
    exact bD_w h1 hR (by omega) hj
   exact qw_mul h3 (hf _ hb) (by omega)
  exact qw_mono (qw_add (hf q hq) h2) (by omega)
theorem byD_w {w:List Int} {m N W:Nat} {R:List (List Rat)} (h1:1≤W) (hR:∀i k,i<m→k<N→qw W (gt (gt R i) k)) {i q:Nat} (hi:i<m) (hq:q<N):qw W (gt (byD w N m R i) q):=by
 obtain ⟨j,hj,rfl⟩:=oL_has (w:=w) hq
 rw [gt_byD hj]
 exact bD_w h1 hR hi hj
theorem xS_w {f:Nat→Rat} {w:List Int} {m N W:Nat} {R:List (List Rat)} (h1:1≤W) (hR:∀i k,i<m→k<N→qw W (gt (gt R i) k)) (hf:∀k,k<N→qw 2200 (f k)) {q:Nat} (hq:q<N):∀i,i≤m→qw (2200+N*(W+2200+1)) (gt (xS f w N m R i) q)
 | 0,_=>by simp only [xS];rw [gt_range _ hq];exact qw_mono (hf q hq) (by omega)
 | i+1,h=>by
  simp only [xS]
  rw [gt_set (by simpa using hq)]
  split
  ·exact qw_mono (sD_w h1 hR hf (by omega) (Nat.le_refl _)) (by omega)
  ·exact xS_w h1 hR hf hq i (by omega)
theorem okl_w {k:Nat} {x:List Rat} (h:∀i,i<x.length→qw k (gt x i)) (hk:k≤10000000000) (hl:x.length≤1048576):OKl x:=⟨hl,fun q hq=>by
 obtain ⟨i,hi,e⟩:=List.getElem_of_mem hq
 have:=h i hi
 rw [←gt_get hi,e] at this
 exact qok_of this hk⟩
theorem frW_doc {f g:Nat→Rat} {w:List Int} {m N W:Nat} {R:List (List Rat)} (h1:1≤W) (hW:W≤200000000) (h14:N≤14) (h7:m≤7) (hm:cnt w N=m) (hR:∀i k,i<m→k<N→qw W (gt (gt R i) k)) (hf:∀k,k<N→qw 2200 (f k)) (hg:∀k,k<N→qw 2200 (g k)) :
  FrW ((List.range m).map (byD w N m R)) (xS f w N m R m) (coL g w N m R m 0):=by
 have z1:N*(W+2200+1)≤14*(W+2200+1):=Nat.mul_le_mul_right _ h14
 have z2:m*(W+2200+1)≤7*(W+2200+1):=Nat.mul_le_mul_right _ h7
 refine ⟨fun r hr=>?_,okl_w (k:=2200+N*(W+2200+1)) (fun i hi=>xS_w h1 hR hf (by simpa using hi) m (Nat.le_refl _)) (by omega) (by simp;omega),okl_w (k:=2202+m*(W+2200+1)) (fun i hi=>?_) (by omega) (by simp;omega)⟩
 ·obtain ⟨i,hi,rfl⟩:=List.mem_map.1 hr
  have hi:i<m:=List.mem_range.1 hi
  exact okl_w (k:=W) (fun q hq=>byD_w h1 hR hi (by rw [byD_len] at hq;exact hq)) (by omega) (by rw [byD_len];omega)
 ·have hi:i<N:=by simpa using hi
  simp only [coL]
  rw [gt_range _ hi]
  exact coS_w h1 hm hR hg (Nat.le_refl _) hi
theorem isF_doc {c:Tc} {p:Prob} {w:List Int} (hN:c.n+c.m=c.N) (hn:cnt w c.N=c.m) {s:List (List Rat) × List Nat} (h:RedY c.m c.N (tabR p c.n c.m c.N (oL w c.N)) s c.m) (cst:Nat→Rat) :
  IsF c (Kp p c.n c.m) w cst ((List.range c.m).map (byD w c.N c.m s.1)) (xS (xw c w) w c.N c.m s.1 c.m) ((List.range c.N).map (coS cst w c.N c.m s.1 c.m)) where
 bl:=by simp
 br i hi:=by rw [gt_range _ hi,byD_len]
 d:=redY_dic hN hn h
 xl:=by simp
 xn k hk hw:=xS_no hn hk hw _ (Nat.le_refl _)
 xb r hr:=by
  rw [xS_b hn _ (Nat.le_refl _) hr,gt_range _ hr,←sumR_perm (f:=fun k=>gt (byD w c.N c.m s.1 r) k*gt (xS (xw c w) w c.N c.m s.1 c.m) k) (ord:=gt (oL w c.N)) (fun k hk=>oL_lt hk) (fun a b ha hb e=>oL_inj ha hb e)]
  refine sumR_congr _ fun k hk=>?_
  rw [gt_byD hk]
  unfold bD
  by_cases q:k<c.m
  ·rw [if_pos q,Rat.zero_mul,Rat.zero_mul]
  ·rw [if_neg q,xS_no hn (oL_lt hk) (oL_no (by omega) hk) _ (Nat.le_refl _)]
 cl:=by simp
 cn k hk:=by
  rw [gt_range _ hk]
  unfold coS
  split
  ·rfl
  ·congr 1
   exact sumR_congr _ fun r hr=>by rw [gt_range _ hr];grind
end Go.Sx
set_option maxRecDepth 10000
namespace Go.Proofs
open Go.Sv Go Go.Tb Go.Pl Go.Ut Go.Mx Go.Li Go.Dt Go.Sx
noncomputable def rlBody:Code:=Tryz.f89.body.getD .skip
def rlF (w:List Int) (n m N:Nat) (R:List (List Rat)):List (Nat × SV):=[(0,.ptr 0 0 0),(2,.ro (w.map iv)),(3,.ro ((oL w N).map natV)),(4,.ro (R.map qlv)),(6,.ptr 1 0 0),(10,iv m),(11,iv N)]
def rlM (p:Prob) (w:List Int) (N i:Nat) (X Co B:List SV):Tab:=[some ⟨4,[.agg [.ro ((bL w N).map natV),.view 4 0 i,.view 2 0 N,.view 3 0 N]],false⟩,some ⟨7,[probP p],false⟩,some ⟨4,X,false⟩,some ⟨4,Co,false⟩,some ⟨1,B,false⟩]
theorem get_ups {N k:Nat} {f:Nat→SV} {d:SV} (h:k<N):(ups N (k+1) f d)=(ups N k f d).set k (f k):=ups_set.symm
theorem lget_self {X:List SV} {k:Nat} {v:SV} (h:k<X.length):lget (X.set k v) k=v:=by rw [lget_eq (by simpa using h)];simp
theorem lget_upsD {N k:Nat} {f:Nat→SV} {d:SV} (h:k<N):lget (ups N k f d) k=d:=by
 rw [lget_eq (by simpa using h)];simp [ups]
theorem ltL_setX {n:Nat} {v:SV} (hv:v.lt n=true):∀{l:List SV} {i:Nat},SV.ltL n l=true→SV.ltL n (l.set i v)=true
 | [],_,h=>h
 | x::l,0,h=>by simp only [SV.ltL,Bool.and_eq_true,List.set] at h ⊢;exact ⟨hv,h.2⟩
 | x::l,i+1,h=>by simp only [SV.ltL,Bool.and_eq_true,List.set] at h ⊢;exact ⟨h.1,ltL_setX hv h.2⟩
theorem ltL_ups {n N k:Nat} {g:Nat→Rat}:SV.ltL n (ups N k (fun q=>qsv (g q)) (rsv 0))=true:=by
 unfold ups
 rw [ltL_map,List.all_eq_true]
 intro q _
 split<;>rfl
theorem rlA (p:Prob) (n m N:Nat) (hn:p.cols.length=n) (hm:p.rows.length=m) (hN:n+m=N) (h14:N≤14) (w:List Int) (hl:w.length=N) (hf:∀k,k<N→Sx.fit (frC p n m N) w k) (R:List (List Rat)) {C:Ctx} (hC:C.fx=[0]) {Q:Post} (hQp:∀c st,¬Q (.panic c) st)
  (hQ:CodeJ Tryz.prog C (dropC 6 rlBody) ⟨234,rlF w n m N R,rlM p w N 0 ((xS (xw (frC p n m N) w) w N m R 0).map qsv) ((coL (cstP p n) w N m R 0 0).map qsv) []⟩ Q) :
  CodeJ Tryz.prog C rlBody ⟨234,[(0,.ptr 0 0 0),(1,probP p),(2,.ro (w.map iv)),(3,.ro ((oL w N).map natV)),(4,.ro (R.map qlv))],[some ⟨4,[.agg [.ro ((bL w N).map natV),.val (.slice none 0 0),.val (.slice none 0 0),.val (.slice none 0 0)]],false⟩]⟩ Q:=by
 refine CodeJ.cutAt 6 (fun st=>st=⟨234,rlF w n m N R,rlM p w N 0 ((xS (xw (frC p n m N) w) w N m R 0).map qsv) ((coL (cstP p n) w N m R 0 0).map qsv) []⟩) ?_ ?_
 rotate_left 1
 ·rintro st rfl
  exact hQ
 clear hQ
 simp only [rlBody,Tryz.f89,Option.getD_some,takeC_succ,takeC_zero]
 have lo:=oL_len w N
 have hxw:∀k,gt w k=2→xw (frC p n m N) w k=(gt (lowR p m) k).at':=fun k h=>xw_2 h
 have hxw3:∀k,gt w k=3→xw (frC p n m N) w k=(gt (highR p m) k).at':=fun k h=>xw_3 h
 have hxw0:∀k,gt w k≠2→gt w k≠3→xw (frC p n m N) w k=0:=fun k h h'=>by unfold xw;rw [if_neg h,if_neg h']
 have hfl:∀k,k<N→gt w k=2→(gt (lowR p m) k).has=true:=fun k hk h=>by
  rcases hf k hk with q | ⟨q,r⟩ | ⟨q,r⟩ | ⟨q,r,t⟩
  ·omega
  ·exact r
  ·omega
  ·omega
 have hfh:∀k,k<N→gt w k=3→(gt (highR p m) k).has=true:=fun k hk h=>by
  rcases hf k hk with q | ⟨q,r⟩ | ⟨q,r⟩ | ⟨q,r,t⟩
  ·omega
  ·omega
  ·exact r
  ·omega
 have cS0:∀k,coS (cstP p n) w N m R 0 k=if gt w k=1 then 0 else cstP p n k:=fun k=>by
  unfold coS;split
  ·rfl
  ·simp only [sumR];grind
 generalize xw (frC p n m N) w=f at *
 simp (disch:=omega) [hm,lo]
 repeat (refine And.intro (by omega) ?_)
 refine CodeJ.le (Le.nilCell 0 1 1 rfl rfl rfl rfl (by simp)) ?_
 refine CodeJ.le (Le.nl _) ?_
 have zz:nlV (.agg [.val (.bool false),.val (.slice none 0 0),.val (.bool false),.val (.slice none 0 0)])=rsv 0:=by rw [←rsv0];rfl
 have nb:nlL ((bL w N).map natV)=(bL w N).map natV:=nlL_map natV (fun _=>rfl) _
 simp [tset,lset,nlS,nlM,nlL_rep,zz,nlV,nb]
 refine CodeJ.loopL (ι:=Nat) (fun k=>⟨234,rlF w n m N R++[(12,iv k)],rlM p w N 0 (ups N k (fun q=>qsv (f q)) (rsv 0)) (ups N k (fun q=>qsv (coS (cstP p n) w N m R 0 q)) (rsv 0)) []⟩)
  (fun k=>k≤N) (fun k=>N - k) 0 (by omega) ?_ ?_
 ·simp [leS,rlF,rlM,leM_self,ups_zero,leM]
  exact ⟨rfl,.inr (by rw [←rsv0])⟩
 ·rintro k hk
  simp only [rlF,rlM,List.cons_append,List.nil_append]
  by_cases hkN:k<N
  ·have lw:=lget_iv (l:=w) (i:=k) (by omega)
   have lX:(ups N k (fun q=>qsv (f q)) (rsv 0)).length=N:=by simp
   have lC:(ups N k (fun q=>qsv (coS (cstP p n) w N m R 0 q)) (rsv 0)).length=N:=by simp
   have sX:=get_ups (N:=N) (k:=k) (f:=fun q=>qsv (f q)) (d:=rsv 0) hkN
   have sC:=get_ups (N:=N) (k:=k) (f:=fun q=>qsv (coS (cstP p n) w N m R 0 q)) (d:=rsv 0) hkN
   have gX:=lget_upsD (N:=N) (k:=k) (f:=fun q=>qsv (f q)) (d:=rsv 0) hkN
   have gC:=lget_upsD (N:=N) (k:=k) (f:=fun q=>qsv (coS (cstP p n) w N m R 0 q)) (d:=rsv 0) hkN
   have tX:SV.ltL 5 (ups N k (fun q=>qsv (f q)) (rsv 0))=true:=ltL_ups
   have tC:SV.ltL 5 (ups N k (fun q=>qsv (coS (cstP p n) w N m R 0 q)) (rsv 0))=true:=ltL_ups
   have fk:=hxw k
   have fk3:=hxw3 k
   have fk0:=hxw0 k
   have ck:=cS0 k
   simp only [cstP] at ck
   have fkl:=hfl k hkN
   have fkh:=hfh k hkN
   generalize ups N k (fun q=>qsv (f q)) (rsv 0)=X at *
   have tX1:=fun v:Rat=>ltL_setX (n:=5) (v:=qsv v) rfl tX (i:=k)
   have g2:=fun v=>lget_self (X:=X) (k:=k) (v:=v) (by omega)
   generalize ups N k (fun q=>qsv (coS (cstP p n) w N m R 0 q)) (rsv 0)=Co at *
   have tC1:=fun v:Rat=>ltL_setX (n:=5) (v:=qsv v) rfl tC (i:=k)
   have g3:=fun v=>lget_self (X:=Co) (k:=k) (v:=v) (by omega)
   simp (disch:=omega) [hkN]
   repeat (refine And.intro (by omega) ?_)
   refine callS (rBounds_ok p n m N k hn hm hN hkN (by omega)) (by simp) ?_
   simp
   refine CodeJ.draw (.qs [0,1,2,3,4]<|.l 5 []<|.qs [6]<|.l 7 [3]<|.nil) (by kernel_rfl) (by kernel_rfl) (by simpa using hQp) ?_
   simp (disch:=omega) [hkN,lC,gC]
   repeat (refine And.intro (by omega) ?_)
   refine callS (zeroP) (by simp) ?_
   simp (disch:=omega) [hkN,lC,lset_eq,gC, -List.map_set]
   repeat (refine And.intro (by omega) ?_)
   refine CodeJ.draw (.qs [0,1,2,3,4]<|.l 5 []<|.qs [6]<|.l 7 [2]<|.nil) (by kernel_rfl) (by kernel_rfl) (by simpa using hQp) ?_
   simp (disch:=omega) [hkN,lX,gX]
   repeat (refine And.intro (by omega) ?_)
   refine callS (zeroP) (by simp) ?_
   by_cases e2:gt w k=2
   ·have fk:=fk e2
    have hh:=fkl e2
    rw [e2] at lw
    rw [if_neg (by omega)] at ck
    simp (disch:=omega) [hkN,lX,lset_eq,lw,hl,gX, -List.map_set]
    repeat (refine And.intro (by omega) ?_)
    refine CodeJ.draw (.qs [0,1,2,3,4,5,6,7]<|.l 8 [2]<|.nil) (by kernel_rfl) (by kernel_rfl) (by simpa using hQp) ?_
    simp (disch:=omega) [hkN,lX,lset_eq,lw,hl,g2,hn,qb_has hh,w64, -List.map_set]
    repeat (refine And.intro (by omega) ?_)
    refine ⟨fun hkn=>?_,fun hkn=>?_⟩
    ·refine CodeJ.draw (.qs [0,1,2,3,4,5,6,7,8,9,10,11]<|.l 12 [3]<|.nil) (by kernel_rfl) (by kernel_rfl) (by simpa using hQp) ?_
     have lc:=lget_colP (l:=p.cols) (i:=k) (by omega)
     rw [if_pos hkn] at ck
     simp (disch:=omega) [hkN,lC,lset_eq,g3,hn,lc,hkn,w64, -List.map_set]
     repeat (refine And.intro (by omega) ?_)
     refine ⟨k+1,by omega,by omega,?_⟩
     rw [sX,sC,fk,ck]
     exact Le.syn (by simp (disch:=omega) [leS,hC,w64,tX1,tC1])
    ·rw [if_neg (by omega)] at ck
     refine ⟨k+1,by omega,by omega,?_⟩
     rw [sX,sC,fk,ck]
     exact Le.syn (by simp (disch:=omega) [leS,hC,w64,tX1,tC1])
   ·by_cases e3:gt w k=3
    ·have fk:=fk3 e3
     have hh:=fkh e3
     rw [e3] at lw
     rw [if_neg (by omega)] at ck
     simp (disch:=omega) [hkN,lX,lset_eq,lw,hl,gX, -List.map_set]
     repeat (refine And.intro (by omega) ?_)
     refine CodeJ.draw (.qs [0,1,2,3,4,5,6,7]<|.l 8 [2]<|.nil) (by kernel_rfl) (by kernel_rfl) (by simpa using hQp) ?_
     simp (disch:=omega) [hkN,lX,lset_eq,lw,hl,g2,hn,qb_has hh,w64, -List.map_set]
     repeat (refine And.intro (by omega) ?_)
     refine ⟨fun hkn=>?_,fun hkn=>?_⟩
     ·refine CodeJ.draw (.qs [0,1,2,3,4,5,6,7,8,9,10,11]<|.l 12 [3]<|.nil) (by kernel_rfl) (by kernel_rfl) (by simpa using hQp) ?_
      have lc:=lget_colP (l:=p.cols) (i:=k) (by omega)
      rw [if_pos hkn] at ck
      simp (disch:=omega) [hkN,lC,lset_eq,g3,hn,lc,hkn,w64, -List.map_set]
      repeat (refine And.intro (by omega) ?_)
      refine ⟨k+1,by omega,by omega,?_⟩
      rw [sX,sC,fk,ck]
      exact Le.syn (by simp (disch:=omega) [leS,hC,w64,tX1,tC1])
     ·rw [if_neg (by omega)] at ck
      refine ⟨k+1,by omega,by omega,?_⟩
      rw [sX,sC,fk,ck]
      exact Le.syn (by simp (disch:=omega) [leS,hC,w64,tX1,tC1])
    ·have fk:=fk0 e2 e3
     by_cases e1:gt w k=1
     ·rw [e1] at lw
      rw [if_pos e1] at ck
      simp (disch:=omega) [hkN,lX,lset_eq,lw,hl,gX,hn,w64, -List.map_set]
      repeat (refine And.intro (by omega) ?_)
      refine ⟨k+1,by omega,by omega,?_⟩
      rw [sX,sC,fk,ck]
      exact Le.syn (by simp (disch:=omega) [leS,hC,w64,tX1,tC1])
     ·rw [if_neg e1] at ck
      simp (disch:=omega) [hkN,lX,lset_eq,lw,hl,gX,hn,e1,e2,e3,w64, -List.map_set]
      repeat (refine And.intro (by omega) ?_)
      refine ⟨fun hkn=>?_,fun hkn=>?_⟩
      ·refine CodeJ.draw (.qs [0,1,2,3,4,5,6,7,8,9,10,11]<|.l 12 [3]<|.nil) (by kernel_rfl) (by kernel_rfl) (by simpa using hQp) ?_
       have lc:=lget_colP (l:=p.cols) (i:=k) (by omega)
       rw [if_pos hkn] at ck
       simp (disch:=omega) [hkN,lC,lset_eq,g3,hn,lc,hkn,w64, -List.map_set]
       repeat (refine And.intro (by omega) ?_)
       refine ⟨k+1,by omega,by omega,?_⟩
       rw [sX,sC,fk,ck]
       exact Le.syn (by simp (disch:=omega) [leS,hC,w64,tX1,tC1])
      ·rw [if_neg (by omega)] at ck
       refine ⟨k+1,by omega,by omega,?_⟩
       rw [sX,sC,fk,ck]
       exact Le.syn (by simp (disch:=omega) [leS,hC,w64,tX1,tC1])
  ·obtain rfl:k=N:=by omega
   simp (disch:=omega) []
   repeat (refine And.intro (by omega) ?_)
   have eX:ups k k (fun q=>qsv (f q)) (rsv 0)=(xS f w k m R 0).map qsv:=by
    simp only [xS,List.map_map]
    refine List.map_congr_left fun q hq=>?_
    rw [if_pos (by simpa using hq)];rfl
   have eC:ups k k (fun q=>qsv (coS (cstP p n) w k m R 0 q)) (rsv 0)=(coL (cstP p n) w k m R 0 0).map qsv:=by
    simp only [coL,List.map_map]
    refine List.map_congr_left fun q hq=>?_
    rw [if_pos (by simpa using hq)];rfl
   rw [eX,eC]
   exact ⟨rfl,by simp [leF,Go.Sv.get],leM_self _,.inl rfl⟩
end Go.Proofs

