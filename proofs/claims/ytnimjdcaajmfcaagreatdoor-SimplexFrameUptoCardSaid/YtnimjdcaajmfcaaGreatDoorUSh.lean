/- A text of the prover's own. -/
import Derived.Test.YtnimjdcaajmfcaaGreatDoorUSf
set_option maxRecDepth 10000
namespace Go.Sx
open Go Go.Sv Go.Pl Go.Proofs Go.Tb Go.Ut Go.Mx Go.Li Go.Dt
theorem whole_app {n:Nat}:∀(A B:Tab),whole n A→whole n B→whole n (A++B)
 | [],_,_,h=>h
 | none::_,_,h,_=>h.elim
 | some _::A,B,h,h'=>⟨h.1,whole_app A B h.2 h'⟩
theorem whole_rwT (n:Nat) (C:List (List Rat)):whole n (rwT C):=by
 unfold rwT
 induction C with
 | nil=>trivial
 | cons x C ih=>exact ⟨by simp,ih⟩
theorem whole_tT {c:Tc} (s:Tb) {n:Nat} (hn:n=c.m+6):whole n (tT c s []):=by
 have:=ltL_byV (N:=c.N) (m:=c.m) (k:=n) (by omega)
 refine whole_app (tH c s) _ ?_ (whole_app _ _ (whole_rwT _ _) trivial)
 simp [tH,tS,whole,this]
 omega
theorem callTt {P:Program} {C:Ctx} {f:FuncId} {args:List SV} {c:Tc} {s:Tb} {tl:Tab} {Φ:Tab→SV→Prop} {W:Option (List Nat)} {K:Tab→List Nat→SV→Prop} (h:EffC P f args (tT c s []) [] Φ) (hR:s.R.length=c.m)
  (ha:SV.ltL (c.m+6) args=true) (hW:∀ks,W=some ks→∀k,k<c.m+6→k∈ks)
  (hK:∀T1 y,Φ T1 y→∃s',T1=tT c s' []∧s'.R.length=c.m∧y.lt (c.m+6)=true∧K (tT c s' tl) [] y):CallJ P C f args (tT c s tl) W K:=by
 have e:∀s:Tb,tT c s tl=tT c s []++tl:=fun s=>by simp [tT]
 have hl:(tT c s []).length=c.m+6:=by rw [tT_len hR];rfl
 rw [e]
 refine callPre h (by rw [hl];exact whole_tT s rfl) (by rw [hl];exact ha) (fun ks q=>by rw [hl];exact hW ks q) fun T1 y hΦ=>?_
 obtain ⟨s',rfl,g1,g2,g3⟩:=hK T1 y hΦ
 rw [e] at g3
 exact ⟨by rw [hl];exact whole_tT s' rfl,by rw [hl,tT_len g1];rfl,by rw [hl];exact g2,g3⟩
theorem callTb {P:Program} {C:Ctx} {f:FuncId} {args:List SV} {c:Tc} {s:Tb} {Φ:Tab→SV→Prop} {W:Option (List Nat)} {K:Tab→List Nat→SV→Prop} (h:EffC P f args (tT c s []) [] Φ) (hR:s.R.length=c.m)
  (ha:SV.ltL (c.m+6) args=true) (hW:∀ks,W=some ks→∀k,k<c.m+6→k∈ks)
  (hK:∀T1 y,Φ T1 y→∃s',T1=tT c s' []∧s'.R.length=c.m∧y.lt (c.m+6)=true∧K (tH c s'++rwT s'.R) [] y):CallJ P C f args (tH c s++rwT s.R) W K:=by
 have e:∀s:Tb,tH c s++rwT s.R=tT c s []:=fun s=>by simp [tT]
 rw [e]
 refine callTt h hR ha hW fun T1 y hΦ=>?_
 obtain ⟨s',h1,h2,h3,h4⟩:=hK T1 y hΦ
 rw [e] at h4
 exact ⟨s',h1,h2,h3,h4⟩
end Go.Sx
namespace Go.Proofs
open Go.Sv Go Go.Tb Go.Pl Go.Ut Go.Mx Go.Li Go.Dt Go.Sx
noncomputable def setBody:Code:=Tryz.f84.body.getD .skip
def SetQ (c:Tc) (K:(Nat→Rat)→Prop) (w:List Int) (T:Tab) (y:SV):Prop :=
 ∃s b,T=tT c s []∧y=bov b∧s.R.length=c.m∧(b=false→¬IsB c K w) ∧
  (b=true→IsB c K w∧SetI c K w s c.N∧s.wh=w∧(∀k,k<c.N→gt w k≠1→gt s.x k=xw c w k)∧∀r,r<c.m→gt s.x (gt s.basic r)=sumR (fun k=>gt (gt s.R r) k*gt s.x k) c.N)
structure TcW (c:Tc):Prop where
 lo:∀k,k<c.N→qw 2200 (gt c.low k).at'
 hi:∀k,k<c.N→qw 2200 (gt c.high k).at'
theorem xw_wd {c:Tc} (h:TcW c) (w:List Int) {k:Nat} (hk:k<c.N):qw 2200 (xw c w k):=by
 unfold xw
 split
 ·exact h.lo k hk
 ·split
  ·exact h.hi k hk
  ·exact qw_mono (qw_int (k:=1) (x:=0) (fw_zero _) (by omega)) (by omega)
theorem pow7_le {e n:Nat} (h:e≤n) (hn:n≤7):2200*5^e≤171875000:=by
 have:5^e≤5^7:=Nat.pow_le_pow_right (by omega) (by omega)
 omega
theorem setI_wd {c:Tc} {K:(Nat→Rat)→Prop} {w:List Int} {s:Tb} (h:SetI c K w s c.N) (hn:cnt w c.N=c.m) (h7:c.m≤7):∀i,i<c.m→Wd 171875000 (gt s.R i):=fun i hi x hx=>by
 obtain ⟨t,h1,h2⟩:=h.w
 exact qw_mono (h2 i hi x hx) (pow7_le (by omega) h7)
theorem setD (c:Tc) (K:(Nat→Rat)→Prop) (s0 s:Tb) (hc:TcL c) (hw:TcW c) (w:List Int) (h0:s0.R.length=c.m) (h:SetI c K w s c.N) (hl:w.length=c.N) (hf:∀k,k<c.N→Sx.fit c w k) (hn:cnt w c.N=c.m) {C:Ctx} (fx:∀k∈C.fx,k<c.m+6) :
  CodeJ Tryz.prog C (dropC 7 setBody) ⟨204,[(0,.ptr 0 0 0)],tT c { s with wh:=w,x:=putX c w s.x c.N } []⟩ (retH Tryz.prog [.tmp 4] [] (effK (tT c s0 []) [] (SetQ c K w))):=by
 have h7:=hc.m7
 have h14:=hc.N14
 have hR:=h.t.R
 have hx:=h.t.x
 have t1:TbL c { s with wh:=w,x:=putX c w s.x c.N }:=⟨hl,by simpa using hx,h.t.b,h.t.r,h.t.R,h.t.Rr,h.t.bb⟩
 have all:=h.all hn
 have hW:=setI_wd h hn h7
 have rk:=qReckon_ok c { s with wh:=w,x:=putX c w s.x c.N } hc t1 (W:=171875000) (V:=2200) (by omega) (fun i j hi hj=>hW i hi j (by rw [h.t.Rr i hi];exact hj)) (fun i k hi hk hz=>by
  have hb:∀q,q<c.m→gt s.basic q≠k:=fun q hq e=>hz (by rw [←e];exact h.d.z0 i q hi hq)
  rw [rk_other t1 hk hb i (by omega)]
  show qw 2200 (gt (putX c w s.x c.N) k)
  rw [gt_putX (by omega)]
  split
  ·exact xw_wd hw w hk
  ·rename_i q
   have hw1:gt w k=1:=by
    by_cases e:gt w k=1
    ·exact e
    ·exact absurd ⟨hk,e⟩ q
   obtain ⟨r,hr,e⟩:=h.a k hk hw1
   exact absurd e (hb r hr)) (by omega)
 simp only [setBody,Tryz.f84,Option.getD_some,dropC_succ,dropC_zero]
 refine CodeJ.go ?_
 simp only [tT,tH,tS,List.cons_append,List.nil_append]
 simp (disch:=omega) [hR]
 repeat (refine And.intro (by omega) ?_)
 refine callTb (s:={ s with wh:=w,x:=putX c w s.x c.N }) rk hR (by simp) (by simp) ?_
 rintro T1 y ⟨rfl,rfl⟩
 refine ⟨_,rfl,hR,by simp,?_⟩
 simp only [tH,tS,List.cons_append,List.nil_append]
 simp
 have hbn:∀k,gt w k≠1→∀i,i<c.m→gt s.basic i≠k:=fun k hk i hi e=>hk (by rw [←e];exact all i hi)
 refine ⟨tT c { s with wh:=w,x:=rkX { s with wh:=w,x:=putX c w s.x c.N } c.N c.m } [],_,⟨_,true,rfl,rfl,hR,fun q=>absurd q (by simp),fun _=>⟨h.isB hl hf hn,⟨⟨hl,by simpa using hx,h.t.b,h.t.r,h.t.R,h.t.Rr,h.t.bb⟩,h.d,h.r,h.a,h.w⟩,rfl,fun k hk hwk=>?_,fun r hr=>?_⟩⟩,rfl,?_,?_,.inl ?_⟩
 ·show gt (rkX _ c.N c.m) k=_
  rw [rk_other t1 hk (hbn k hwk) c.m (by omega)]
  show gt (putX c w s.x c.N) k=_
  rw [gt_putX (by omega),if_pos ⟨hk,hwk⟩]
 ·show gt (rkX _ c.N c.m) _=sumR (fun k=>_*gt (rkX _ c.N c.m) k) c.N
  rw [rk_sum t1 h.d hr (Nat.le_refl _)]
  exact rk_basic t1 h.d c.m (Nat.le_refl _) r hr
 ·rw [tT,List.append_nil];exact leM_self _
 ·simp [tT,tH,h0,hR]
 ·simp [tT,tH]
theorem xw_2 {c:Tc} {w:List Int} {k:Nat} (h:gt w k=2):xw c w k=(gt c.low k).at':=if_pos h
theorem xw_3 {c:Tc} {w:List Int} {k:Nat} (h:gt w k=3):xw c w k=(gt c.high k).at':=by unfold xw;rw [if_neg (by omega),if_pos h]
theorem xw_0 {c:Tc} {w:List Int} {k:Nat} (h:gt w k=0):xw c w k=0:=by unfold xw;rw [if_neg (by omega),if_neg (by omega)]
theorem boQ_at (b:Bo):SV.agg (List.take 4 (boQ b).cells.tail)=rsv b.at':=rfl
theorem setC (c:Tc) (K:(Nat→Rat)→Prop) (s0 s:Tb) (hc:TcL c) (hw:TcW c) (w:List Int) (h0:s0.R.length=c.m) (h:SetI c K w s c.N) (hl:w.length=c.N) (hf:∀k,k<c.N→Sx.fit c w k) (hn:cnt w c.N=c.m) {C:Ctx} (fx:∀k∈C.fx,k<c.m+6) :
  CodeJ Tryz.prog C (dropC 6 setBody) ⟨204,[(0,.ptr 0 0 0),(1,.ro (w.map iv))],tT c s []⟩ (retH Tryz.prog [.tmp 4] [] (effK (tT c s0 []) [] (SetQ c K w))):=by
 have h7:=hc.m7
 have h14:=hc.N14
 have hR:=h.t.R
 have hx:=h.t.x
 have hwh:=h.t.w
 have hlo:=hc.lo
 have hhi:=hc.hi
 refine CodeJ.cutAt 1 (fun st=>st=⟨204,[(0,.ptr 0 0 0)],tT c { s with wh:=w,x:=putX c w s.x c.N } []⟩) ?_ ?_
 rotate_left 1
 ·rintro st rfl
  have:=setD c K s0 s hc hw w h0 h hl hf hn fx
  simp only [setBody,Tryz.f84,Option.getD_some,dropC_succ,dropC_zero] at this ⊢
  exact this
 simp only [setBody,Tryz.f84,Option.getD_some,dropC_succ,dropC_zero,takeC_succ,takeC_zero]
 simp only [tT,tH,tS,List.cons_append,List.nil_append]
 simp (disch:=omega) [hl]
 repeat (refine And.intro (by omega) ?_)
 refine CodeJ.loopL (ι:=Nat) (fun j=>⟨204,[(0,.ptr 0 0 0),(1,.ro (w.map iv)),(145,.ro (w.map iv)),(146,iv c.N),(147,iv j)],tT c { s with wh:=putW w s.wh j,x:=putX c w s.x j } []⟩)
  (fun j=>j≤c.N) (fun j=>c.N - j) 0 (by simp) ?_ ?_
 ·rw [putX_zero,putW_zero]
  simp [leS,tT,tH,tS,leM_self,hl]
 ·rintro j hj
  have pw:(putW w s.wh j).length=c.N:=by rw [putW_len,hwh]
  have px:(putX c w s.x j).length=c.N:=by rw [putX_len,hx]
  by_cases hjN:j<c.N
  ·have lw:=lget_iv (l:=w) (i:=j) (by omega)
   have lw2:=lget_iv (l:=putW w s.wh j) (i:=j) (by omega)
   have lx2:=lget_r (l:=putX c w s.x j) (i:=j) (by omega)
   have pws:=putW_set (w:=w) (wh:=s.wh) (j:=j) (by omega)
   have pxs:=putX_set (c:=c) (w:=w) (x:=s.x) (j:=j) (by omega)
   have pxk:=putX_skip (c:=c) (w:=w) (x:=s.x) (j:=j)
   have llo:lget (c.low.map boQ) j=boQ (gt c.low j):=lget_m _ (by omega)
   have lhi:lget (c.high.map boQ) j=boQ (gt c.high j):=lget_m _ (by omega)
   have hfj:=hf j hjN
   simp only [tT,tH,tS,List.cons_append,List.nil_append]
   rcases hfj with e | ⟨e, -⟩ | ⟨e, -⟩ | ⟨e, -⟩
   ·rw [e] at lw pws
    simp (disch:=omega) [hjN,hl,lw,lw2,pw,lset_iv,w64, -List.map_set]
    repeat (refine And.intro (by omega) ?_)
    rw [pws]
    refine ⟨j+1,by omega,by omega,?_⟩
    rw [pxk e]
    exact Le.syn ⟨rfl,by simp (disch:=omega) [leF,Go.Sv.get,w64],leM_self _,.inl rfl⟩
   ·rw [e] at lw pws
    rw [xw_2 e] at pxs
    simp (disch:=omega) [hjN,hl,lw,lw2,pw,lset_iv, -List.map_set]
    repeat (refine And.intro (by omega) ?_)
    refine CodeJ.draw (.qs [0,1,2,3,4,5,6,7,8,9,10,11,12,13]<|.l 14 [2]<|.nil) (by kernel_rfl) (by kernel_rfl) (by simp) ?_
    simp (disch:=omega) [hjN,hlo,px,llo,lx2,boQ_at,lset_rat,w64, -List.map_set]
    repeat (refine And.intro (by omega) ?_)
    rw [pws,pxs (by omega)]
    exact ⟨j+1,by omega,by omega,Le.syn ⟨rfl,by simp (disch:=omega) [leF,Go.Sv.get,w64],leM_self _,.inl rfl⟩⟩
   ·rw [e] at lw pws
    rw [xw_3 e] at pxs
    simp (disch:=omega) [hjN,hl,lw,lw2,pw,lset_iv, -List.map_set]
    repeat (refine And.intro (by omega) ?_)
    refine CodeJ.draw (.qs [0,1,2,3,4,5,6,7,8,9,10,11,12,13]<|.l 14 [2]<|.nil) (by kernel_rfl) (by kernel_rfl) (by simp) ?_
    simp (disch:=omega) [hjN,hhi,px,lhi,lx2,boQ_at,lset_rat,w64, -List.map_set]
    repeat (refine And.intro (by omega) ?_)
    rw [pws,pxs (by omega)]
    exact ⟨j+1,by omega,by omega,Le.syn ⟨rfl,by simp (disch:=omega) [leF,Go.Sv.get,w64],leM_self _,.inl rfl⟩⟩
   ·rw [e] at lw pws
    rw [xw_0 e] at pxs
    simp (disch:=omega) [hjN,hl,lw,lw2,pw,lset_iv,px,lx2,w64, -List.map_set]
    repeat (refine And.intro (by omega) ?_)
    rw [pws]
    refine ⟨j+1,by omega,by omega,?_⟩
    rw [←pxs (by omega)]
    exact le_nlX { s with wh:=putW w s.wh (j+1) } hR fx (by simp (disch:=omega) [leF,Go.Sv.get,w64]) (by simp [ltF])
  ·obtain rfl:j=c.N:=by omega
   have pe:putW w s.wh c.N=w:=by rw [←hwh];exact putW_end (by omega)
   simp only [tT,tH,tS,List.cons_append,List.nil_append]
   simp (disch:=omega) []
   repeat (refine And.intro (by omega) ?_)
   rw [pe]
   exact ⟨rfl,by simp [leF,Go.Sv.get],leM_self _,.inl rfl⟩
theorem setNo {c:Tc} {K:(Nat→Rat)→Prop} {w:List Int} {s0 s:Tb} (h0:s0.R.length=c.m) (hR:s.R.length=c.m) (hno:¬IsB c K w):∃T1 y,SetQ c K w T1 y∧SV.val (.bool false)=y∧leM (tH c s++rwT s.R) T1∧s0.R.length+1+1+1+1+1+1≤T1.length ∧
  (s.R.length+1+1+1+1+1+1=T1.length∨(SV.lt T1.length y=true∧ltM T1.length T1)):=by
 refine ⟨tT c s [],_,⟨s,false,rfl,rfl,hR,fun _=>hno,fun q=>absurd q (by simp)⟩,rfl,?_,?_,.inl ?_⟩
 ·rw [tT,List.append_nil];exact leM_self _
 ·simp [tT,tH,h0,hR]
 ·simp [tT,tH]
theorem setB (c:Tc) (K:(Nat→Rat)→Prop) (s0:Tb) (hc:TcL c) (hw:TcW c) (w:List Int) (h:SetI c K w s0 0) (hl:w.length=c.N) (hf:∀k,k<c.N→Sx.fit c w k) (hn:cnt w c.N=c.m) {C:Ctx} (fx:∀k∈C.fx,k<c.m+6) :
  CodeJ Tryz.prog C (dropC 5 setBody) ⟨204,[(0,.ptr 0 0 0),(1,.ro (w.map iv))],tT c s0 []⟩ (retH Tryz.prog [.tmp 4] [] (effK (tT c s0 []) [] (SetQ c K w))):=by
 have h7:=hc.m7
 have h14:=hc.N14
 have h0:=h.t.R
 refine CodeJ.cutAt 1 (fun st=>∃s,SetI c K w s c.N∧st=⟨204,[(0,.ptr 0 0 0),(1,.ro (w.map iv))],tT c s []⟩) ?_ ?_
 rotate_left 1
 ·rintro st ⟨s,hs,rfl⟩
  have:=setC c K s0 s hc hw w h0 hs hl hf hn fx
  simp only [setBody,Tryz.f84,Option.getD_some,dropC_succ,dropC_zero] at this ⊢
  exact this
 simp only [setBody,Tryz.f84,Option.getD_some,dropC_succ,dropC_zero,takeC_succ,takeC_zero]
 simp only [tT,tH,tS,List.cons_append,List.nil_append]
 simp (disch:=omega) [hl]
 repeat (refine And.intro (by omega) ?_)
 refine CodeJ.loopL (ι:=Nat × Tb) (fun ⟨j,s⟩=>⟨204,[(0,.ptr 0 0 0),(1,.ro (w.map iv)),(88,.ro (w.map iv)),(89,iv c.N),(90,iv j)],tT c s []⟩)
  (fun ⟨j,s⟩=>j≤c.N∧SetI c K w s j) (fun ⟨j,s⟩=>c.N - j) (0,s0) ⟨by omega,h⟩ ?_ ?_
 ·simp [leS,tT,tH,tS,leM_self]
 ·rintro ⟨j,s⟩ ⟨hj,hs⟩
  have hR:=hs.t.R
  have hb:=hs.t.b
  have hrow:=hs.t.r
  dsimp only
  by_cases hjN:j<c.N
  ·have lw:=lget_iv (l:=w) (i:=j) (by omega)
   have lr:=lget_iv (l:=s.row) (i:=j) (by omega)
   simp only [tT,tH,tS,List.cons_append,List.nil_append]
   by_cases hw1:gt w j=1
   ·by_cases hr0:0≤gt s.row j
    ·simp (disch:=omega) [hjN,hl,lw,lr,hw1,hrow,hr0,w64]
     repeat (refine And.intro (by omega) ?_)
     exact ⟨j+1,s,⟨by omega,hs.skip hjN (.inr hr0)⟩,by omega,Le.syn ⟨rfl,by simp (disch:=omega) [leF,Go.Sv.get,w64],leM_self _,.inl rfl⟩⟩
    ·simp (disch:=omega) [hjN,hl,lw,lr,hw1,hrow,hr0,w64]
     repeat (refine And.intro (by omega) ?_)
     refine CodeJ.loopL (ι:=Nat) (fun i=>⟨204,[(0,.ptr 0 0 0),(1,.ro (w.map iv)),(88,.ro (w.map iv)),(89,iv c.N),(90,iv j),(8,iv j),(10,iv (-1)),(110,.view 3 0 c.m),(111,iv c.m),(112,iv i)],tT c s []⟩)
      (fun i=>i≤c.m∧∀q,q<i→gt w (gt s.basic q)=1∨gt (gt s.R q) j=0) (fun i=>c.m - i) 0 ⟨by omega,fun q hq=>by omega⟩ ?_ ?_
     ·exact ⟨rfl,by simp [leF,Go.Sv.get],by simp only [tT,List.append_nil];exact leM_self _,.inl (by simp [tT,tH])⟩
     ·rintro i ⟨hi,hq⟩
      by_cases him:i<c.m
      ·have lb:=lget_nat (l:=s.basic) (i:=i) (by omega)
       have bbi:=hs.t.bb i him
       have lwb:=lget_iv (l:=w) (i:=gt s.basic i) (by omega)
       have lyi:=lget_byV (N:=c.N) (m:=c.m) (i:=i) him
       have tg:=fun tl:Tab=>tget_rw (C:=s.R) (tl:=tl) (e:=i) (by omega)
       have tg0:=tg []
       rw [List.append_nil] at tg0
       have Ri:=hs.t.Rr i him
       have lj:=lget_r (l:=gt s.R i) (i:=j) (by omega)
       simp only [tT,tH,tS,List.cons_append,List.nil_append]
       by_cases e1:gt w (gt s.basic i)=1
       ·simp (disch:=omega) [him,hb,lb,lwb,hl,bbi,e1,w64]
        repeat (refine And.intro (by omega) ?_)
        exact ⟨i+1,⟨by omega,fun q hqi=>by
         by_cases e:q=i
         ·rw [e];exact .inl e1
         ·exact hq q (by omega)⟩,by omega,Le.syn ⟨rfl,by simp (disch:=omega) [leF,Go.Sv.get,w64],leM_self _,.inl rfl⟩⟩
       ·simp (disch:=omega) [him,hb,lb,lwb,hl,bbi,e1,lyi,tg0,Ri,lj,hjN]
        repeat (refine And.intro (by omega) ?_)
        refine callS (qSign_ok (gt (gt s.R i) j)) (by simp) ?_
        simp (disch:=omega) [w64,Int.sign_eq_zero_iff_zero,Rat.num_eq_zero]
        repeat (refine And.intro (by omega) ?_)
        refine ⟨fun z=>⟨fun q=>absurd q (by omega),?_⟩,fun z=>?_⟩
        ·obtain ⟨t,ht1,ht2⟩:=hs.w
         have cm:=cnt_mono (w:=w) (show j≤c.N by omega)
         have p7:=pow7_le (e:=t) (n:=7) (by omega) (by omega)
         have p2:2≤2200*5^t:=by have:=Nat.pow_pos (n:=t) (show 0<5 by omega);omega
         have tn:=qTurn_ok c s hc hs.t p2 ht2 (by omega) him hjN z
         refine callTb (s:=s) tn hR (by simp) (by simp) ?_
         rintro T1 y ⟨rfl,rfl⟩
         refine ⟨_,rfl,(hs.t.turn hjN).R,by simp,?_⟩
         have hs2:=hs.turn hjN him hw1 e1 z
         generalize turnT s i j=s2 at *
         simp only [tH,tS,List.cons_append,List.nil_append]
         simp (disch:=omega) [w64]
         repeat (refine And.intro (by omega) ?_)
         exact ⟨j+1,s2,⟨by omega,hs2⟩,by omega,Le.syn ⟨rfl,by simp (disch:=omega) [leF,Go.Sv.get,w64],leM_self _,.inl rfl⟩⟩
        ·exact ⟨i+1,⟨by omega,fun q hqi=>by
          by_cases e:q=i
          ·rw [e];exact .inr z
          ·exact hq q (by omega)⟩,by omega,Le.syn ⟨rfl,by simp (disch:=omega) [leF,Go.Sv.get,w64],leM_self _,.inl rfl⟩⟩
      ·obtain rfl:i=c.m:=by omega
       simp only [tT,tH,tS,List.cons_append,List.nil_append]
       simp (disch:=omega) []
       repeat (refine And.intro (by omega) ?_)
       exact setNo h0 hR (hs.no hjN hw1 (by omega) hq)
   ·simp (disch:=omega) [hjN,hl,lw,hw1,w64]
    repeat (refine And.intro (by omega) ?_)
    exact ⟨j+1,s,⟨by omega,hs.skip hjN (.inl hw1)⟩,by omega,Le.syn ⟨rfl,by simp (disch:=omega) [leF,Go.Sv.get,w64],leM_self _,.inl rfl⟩⟩
  ·obtain rfl:j=c.N:=by omega
   simp only [tT,tH,tS,List.cons_append,List.nil_append]
   simp (disch:=omega) []
   repeat (refine And.intro (by omega) ?_)
   exact ⟨_,⟨s,hs,rfl⟩,rfl,by simp [leF,Go.Sv.get],leM_self _,.inl rfl⟩
end Go.Proofs
set_option maxRecDepth 10000
namespace Go.Proofs
open Go.Sv Go Go.Tb Go.Pl Go.Ut Go.Mx Go.Li Go.Dt Go.Sx
theorem boQ_hasV (b:Bo):lget (boQ b).cells 0=bov b.has:=rfl
theorem qSet_ok (c:Tc) (K:(Nat→Rat)→Prop) (s:Tb) (hc:TcL c) (hw:TcW c) (hn:c.n+c.m=c.N) (w:List Int) (h:SetI c K w s 0) (hwl:w.length≤1048576) :
  EffC Tryz.prog 84 [.ptr 0 0 0,.ro (w.map iv)] (tT c s []) [] (SetQ c K w):=by
 have h7:=hc.m7
 have h14:=hc.N14
 have hlo:=hc.lo
 have hhi:=hc.hi
 have hR:=h.t.R
 refine eff_enterC Tryz.func84 rfl (by simp) (fun C hC=>?_)
 have fx:=fx_lt hR hC
 show CodeJ _ _ setBody _ (retH _ [.tmp 4] _ _)
 refine CodeJ.cutAt 5 (fun st=>st=⟨204,[(0,.ptr 0 0 0),(1,.ro (w.map iv))],tT c s []⟩∧w.length=c.N∧(∀k,k<c.N→Sx.fit c w k)∧cnt w c.N=c.m) ?_ ?_
 rotate_left 1
 ·rintro st ⟨rfl,g1,g2,g3⟩
  exact setB c K s hc hw w h g1 g2 g3 fx
 simp only [setBody,Tryz.f84,Option.getD_some,takeC_succ,takeC_zero]
 simp only [tT,tH,tS,List.cons_append,List.nil_append]
 have wr:IntKind.i64.wrap ((c.n:Int)+c.m)=(c.N:Int):=by simp (disch:=omega) [w64];omega
 simp (disch:=omega) []
 repeat (refine And.intro (by omega) ?_)
 refine CodeJ.draw (.qs [0,1,2,3,4,5,6,7,8,9,10,11]<|.nil) (by kernel_rfl) (by kernel_rfl) (by simp) ?_
 by_cases hl:w.length=c.N
 ·simp (disch:=omega) [wr,hl]
  repeat (refine And.intro (by omega) ?_)
  refine CodeJ.loopL (ι:=Nat) (fun k=>⟨204,[(0,.ptr 0 0 0),(1,.ro (w.map iv)),(5,iv (cnt w k)),(27,.ro (w.map iv)),(28,iv c.N),(29,iv k)],tT c s []⟩)
   (fun k=>k≤c.N∧∀q,q<k→Sx.fit c w q) (fun k=>c.N - k) 0 ⟨by omega,fun q hq=>by omega⟩ ?_ ?_
  ·simp [leS,tT,tH,tS,leM_self,Sx.cnt]
  ·rintro k ⟨hk,hq⟩
   have ck:=cnt_le w k
   by_cases hkN:k<c.N
   ·have lw:=lget_iv (l:=w) (i:=k) (by omega)
    have llo:lget (c.low.map boQ) k=boQ (gt c.low k):=lget_m _ (by omega)
    have lhi:lget (c.high.map boQ) k=boQ (gt c.high k):=lget_m _ (by omega)
    have nx:Sx.fit c w k→∀q,q<k+1→Sx.fit c w q:=fun hf q hqk=>by
     by_cases e:q=k
     ·rw [e];exact hf
     ·exact hq q (by omega)
    have cs:cnt w (k+1)=cnt w k+if gt w k=1 then 1 else 0:=rfl
    simp only [tT,tH,tS,List.cons_append,List.nil_append]
    by_cases e1:gt w k=1
    ·have lw1:=lw
     rw [e1] at lw1
     simp (disch:=omega) [hkN,lw1,hl,w64]
     repeat (refine And.intro (by omega) ?_)
     exact ⟨k+1,⟨by omega,nx (.inl e1)⟩,by omega,Le.syn ⟨rfl,by simp (disch:=omega) [leF,Go.Sv.get,w64,cs,e1],leM_self _,.inl rfl⟩⟩
    ·rw [if_neg e1,Nat.add_zero] at cs
     by_cases e2:gt w k=2
     ·rw [e2] at lw
      by_cases hh:(gt c.low k).has=true
      ·simp (disch:=omega) [hkN,lw,hl,hlo,llo,hh,boQ_hasV,w64]
       repeat (refine And.intro (by omega) ?_)
       exact ⟨k+1,⟨by omega,nx (.inr (.inl ⟨e2,hh⟩))⟩,by omega,Le.syn ⟨rfl,by simp (disch:=omega) [leF,Go.Sv.get,w64,cs,e2],leM_self _,.inl rfl⟩⟩
      ·simp (disch:=omega) [hkN,lw,hl,hlo,llo,hh,boQ_hasV,w64]
       repeat (refine And.intro (by omega) ?_)
       exact setNo hR hR fun hB=>by rcases hB.f k hkN with q | ⟨q,r⟩ | ⟨q,r⟩ | ⟨q,r,t⟩<;>first | omega | simp_all
     ·by_cases e3:gt w k=3
      ·rw [e3] at lw
       by_cases hh:(gt c.high k).has=true
       ·simp (disch:=omega) [hkN,lw,hl,hhi,lhi,hh,boQ_hasV,w64]
        repeat (refine And.intro (by omega) ?_)
        exact ⟨k+1,⟨by omega,nx (.inr (.inr (.inl ⟨e3,hh⟩)))⟩,by omega,Le.syn ⟨rfl,by simp (disch:=omega) [leF,Go.Sv.get,w64,cs,e3],leM_self _,.inl rfl⟩⟩
       ·simp (disch:=omega) [hkN,lw,hl,hhi,lhi,hh,boQ_hasV,w64]
        repeat (refine And.intro (by omega) ?_)
        exact setNo hR hR fun hB=>by rcases hB.f k hkN with q | ⟨q,r⟩ | ⟨q,r⟩ | ⟨q,r,t⟩<;>first | omega | simp_all
      ·by_cases e0:gt w k=0
       ·rw [e0] at lw
        by_cases hh:(gt c.low k).has=true
        ·simp (disch:=omega) [hkN,lw,hl,hlo,llo,hh,boQ_hasV,w64]
         repeat (refine And.intro (by omega) ?_)
         exact setNo hR hR fun hB=>by rcases hB.f k hkN with q | ⟨q,r⟩ | ⟨q,r⟩ | ⟨q,r,t⟩<;>first | omega | simp_all
        ·by_cases hh2:(gt c.high k).has=true
         ·simp (disch:=omega) [hkN,lw,hl,hlo,llo,hh,hhi,lhi,hh2,boQ_hasV,w64]
          repeat (refine And.intro (by omega) ?_)
          exact setNo hR hR fun hB=>by rcases hB.f k hkN with q | ⟨q,r⟩ | ⟨q,r⟩ | ⟨q,r,t⟩<;>first | omega | simp_all
         ·simp (disch:=omega) [hkN,lw,hl,hlo,llo,hh,hhi,lhi,hh2,boQ_hasV,w64]
          repeat (refine And.intro (by omega) ?_)
          exact ⟨k+1,⟨by omega,nx (.inr (.inr (.inr ⟨e0,by simpa using hh,by simpa using hh2⟩)))⟩,by omega,Le.syn ⟨rfl,by simp (disch:=omega) [leF,Go.Sv.get,w64,cs,e0],leM_self _,.inl rfl⟩⟩
       ·simp (disch:=omega) [hkN,lw,hl,e1,e2,e3,e0,w64]
        repeat (refine And.intro (by omega) ?_)
        exact setNo hR hR fun hB=>by rcases hB.f k hkN with q | ⟨q,r⟩ | ⟨q,r⟩ | ⟨q,r,t⟩<;>first | omega | simp_all
   ·obtain rfl:k=c.N:=by omega
    simp only [tT,tH,tS,List.cons_append,List.nil_append]
    simp (disch:=omega) []
    repeat (refine And.intro (by omega) ?_)
    refine ⟨fun q=>?_,fun q=>?_⟩
    ·exact setNo hR hR fun hB=>q (by rw [hB.n])
    ·exact ⟨_,⟨rfl,hq,by omega⟩,rfl,by simp [leF,Go.Sv.get],leM_self _,.inl rfl⟩
 ·simp (disch:=omega) [wr,hl]
  repeat (refine And.intro (by omega) ?_)
  refine ⟨fun q=>?_,fun q=>absurd q (by omega)⟩
  exact setNo hR hR fun hB=>hl hB.l
end Go.Proofs

