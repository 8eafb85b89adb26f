/- A text of the prover's own. -/
import Derived.Test.YtmghjkkjaolpgaaGreatDoorUIw
import Derived.Test.YtmghjkkjaolpgaaGreatDoorUIz
import Derived.Test.YtmghjkkjaolpgaaGreatDoorUEc
namespace Go.Ps
open Go Go.Sv Go.Pl Go.Proofs Go.Tb Go.Ut Go.Li
theorem wg:(gy true (bI P1)).1=false:=by decide +kernel
theorem KK:(gy true (bI P1)).2.no=false:=by decide +kernel
theorem Ff:(aB (gy true (bI P1)).2.gc 2).length=2:=by decide +kernel
theorem Fe{z:Wk}(h:BM true (bI P1) z):z.no=false∧(aB z.gc 2).length=2:=by
 cases h with
 | no h=>cases h
 | last=>exact⟨KK,Ff⟩
 | step _ h1=>rw[wg]at h1;cases h1
theorem zg(g:List Bool):∀{j k:Nat},k∈aB g j→k<j
 | 0,k,h=>by simp[aB]at h
 | j+1,k,h=>by
  unfold aB at h;split at h
  ·have:=zg g h;omega
  ·rcases List.mem_append.1 h with h | h
   ·have:=zg g h;omega
   ·have:k=j:=by simpa using h
    omega
theorem xC{w:Wk}{j:Nat}{c:df}(h:c∈dD w j):∃k,k<j∧c=gt w.aa k:=by
 unfold dD at h;obtain⟨k,hk,rfl⟩:=List.mem_map.1 h;exact⟨k,zg _ hk,rfl⟩
theorem lR{w:Wk}:∀{i:Nat} {r:Row},r∈cO w i→∃k,k<i∧r=ic w (gt w.rows k)
 | 0,r,h=>by simp[cO]at h
 | i+1,r,h=>by
  unfold cO at h;split at h
  ·obtain⟨k,hk,e⟩:=lR h;exact⟨k,by omega,e⟩
  ·rcases List.mem_append.1 h with h | h
   ·obtain⟨k,hk,e⟩:=lR h;exact⟨k,by omega,e⟩
   ·exact⟨i,by omega,by simpa using h⟩
theorem FK{n m:Nat}{z:Wk}{mx:Bool}(G:aW n m 2400 z)(h7:n≤7)(h7':m≤7):SpO (bM mx z):=by
 obtain⟨g1,g2⟩:=fm G;have T:qB 2400 (aD z.gc) (aD z.gr)≤629145600:=na (by omega) (by omega) (by omega);have TA:qA 2400 (aD z.gc)≤39321597:=vg (by omega) (by omega);have nc:=G.S.nc;have nr:=G.S.nr;refine⟨?_,?_,cG G.W.sh (by omega),fun j hj=>?_,fun i hi=>?_⟩
 ·have:=qC z z.rows.length;show(cO z z.rows.length).length≤120;omega
 ·have:=ru z.gc z.aa.length;show(dD z z.aa.length).length≤120;rw[gj];omega
 ·have hj':j<(dD z z.aa.length).length:=hj;obtain⟨k,hk,e⟩:=xC (dr hj');obtain⟨a,b,c⟩:=G.W.co k hk;show dE (gt (dD z z.aa.length) j).cost∧dE (gt (dD z z.aa.length) j).low.at'∧dE (gt (dD z z.aa.length) j).high.at';rw[e];exact⟨cG c (by omega),cG a (by omega),cG b (by omega)⟩
 ·have hi':i<(cO z z.rows.length).length:=hi;obtain⟨k,hk,e⟩:=lR (dr hi');obtain⟨a,b⟩:=G.W.ro k hk;have ht:=G.W.te k hk;have hl:=ko (G.S.te k (by omega));show Po (gt (cO z z.rows.length) i);rw[e];refine⟨by simp[ic];omega,fun q hq=>?_,cG a (by omega),cG b (by omega)⟩;have hq':q<(gt z.rows k).ab.length:=by simpa[ic]using hq
  unfold ic;rw[dL _ hq'];exact cG (ht q hq') (by omega)
end Go.Ps
namespace Go.Proofs
open Go.Sv Go Go.Tb Go.Pl Go.Ut Go.Li Go.Ps
structure StO(s:lU):Prop where
 n:s.ab.length≤120
 at':dE s.at'
 t:∀k,k<s.ab.length→dE (gt s.ab k).num
end Go.Proofs
namespace Go.Ps
open Go Go.Sv Go.Pl Go.Proofs Go.Tb Go.Ut Go.Li
def oh(w:Wk):Prop:=∀s∈w.steps,s.ab.length≤1
theorem oh.put{w:Wk}(h:oh w)(j:Nat)(a:Rat){ts:List Term}(ht:ts.length≤1):oh (k8 w j a ts):=fun s hs=>by
 rcases List.mem_append.1 (show s∈w.steps++[⟨j,a,ts⟩] from hs)with hs | hs
 ·exact h s hs
 ·have:s=⟨j,a,ts⟩:=by simpa using hs
  subst this;exact ht
theorem jw{d:Wk→Nat→Bool × Wk}{g:Wk→List Bool}(hd:∀w i,oh w→oh (d w i).2):∀m i w,oh w→oh (bH d g m i w).2
 | 0,_,_,h=>h
 | m+1,i,w,h=>by
  unfold bH;split
  ·exact jw hd m (i+1) w h
  ·split
   ·exact hd w i h
   ·exact jw hd m (i+1) _ (hd w i h)
theorem Km(w:Wk)(i:Nat)(h:oh w):oh (iF w i).2:=by
 unfold iF;split
 ·exact h
 ·exact h
theorem KD(w:Wk)(i:Nat)(h:oh w):oh (jA w i).2:=by
 rw[Iy];split
 ·exact h
 ·exact h
theorem J9(w:Wk)(i:Nat)(h:oh w):oh (o3 w i).2:=by
 rw[Ji];split
 ·split
  ·exact h
  ·exact h.put i _ (by simp)
 ·exact h
theorem Ke(mx:Bool)(w:Wk)(j:Nat)(h:oh w):oh (iq mx w j).2:=by
 unfold iq;split
 ·exact h
 ·have h1:∀c,oh (cD w j c):=fun c=>h;simp only[];generalize (if(gt w.aa j).whole=true then bg (gt w.aa j) (gt w.aa j).low (gt w.aa j).high else gt w.aa j)=c;split
  ·exact h
  ·split
   ·exact(h1 c).put j _ (by simp)
   ·exact h
theorem GI(w:Wk)(i:Nat)(h:oh w):oh (gC w i).2:=by
 rw[EC];split
 ·exact h
 ·split
  ·exact h
  ·split
   ·exact h
   ·exact h
theorem J1(w:Wk)(i:Nat)(h:oh w):oh (iB w i).2:=by
 unfold iB;simp only[];split
 ·exact oh.put (w:=fh (cD w _ _) i) h _ _ (by simp)
 ·exact h
theorem Js{a:Bool × Wk}{f:Wk→Bool × Wk}(h:oh a.2)(hf:∀w,oh w→oh (f w).2):oh (wO a f).2:=by
 unfold wO;split
 ·exact h
 ·exact hf _ h
theorem LN(mx:Bool)(w:Wk)(h:oh w)(k:Nat):oh (gW mx w k).2:=by
 unfold gW;split
 ·exact Js (jw (fun w i h=>h) _ _ _ h) fun w h=>jw (fun w i h=>h) _ _ _ h
 ·exact jw Km _ _ _ h
 ·exact jw KD _ _ _ h
 ·exact jw J9 _ _ _ h
 ·exact jw (Ke mx) _ _ _ h
 ·exact jw GI _ _ _ h
 ·exact jw J1 _ _ _ h
theorem yI(mx:Bool)(w:Wk)(h:oh w):∀k,oh (eo mx w k).2
 | 0=>h
 | k+1=>Js (yI mx w h k) fun w h=>LN mx w h (k+1)
theorem IG{mx:Bool}{w z:Wk}(hr:BM mx w z):oh w→oh z:=by
 induction hr with
 | no _=>exact id
 | last _ _=>exact fun h=>yI mx _ h 7
 | step _ _ _ ih=>exact fun h=>ih (yI mx _ h 7)
theorem Mi(t:ByteArray):nB (jM t):=fun h=>by
 unfold jM at h ⊢;split
 ·rfl
 ·rename_i q;rw[if_neg q]at h;cases h
theorem Mw(s:cR):∀i,i<(ch s).rows.length→nB (gt (ch s).rows i).low∧nB (gt (ch s).rows i).high:=fun i hi=>by
 have hi':i<s.rows.length:=by simpa[ch]using hi
 unfold ch;rw[dL _ hi'];exact⟨Mi _,Mi _⟩
theorem AX:∀i,i<P1.rows.length→nB (gt P1.rows i).low∧nB (gt P1.rows i).high:=by rw[←iY];exact Mw _
theorem OH(mx:Bool)(w:Wk):SV.agg (List.take 7 (ph mx w).cells.tail)=eQ (bM mx w):=rfl
@[simp] theorem acN(mx:Bool)(w:Wk):aA (ph mx w).cells 0=.val (.bool false):=rfl
@[simp] theorem Zt(mx:Bool)(w:Wk):aA (ph mx w).cells 8=.ro (w9 w.gc w.aa.length):=rfl
@[simp] theorem Z8(mx:Bool)(w:Wk):aA (ph mx w).cells 9=.ro (w.steps.map mX):=rfl
end Go.Ps
namespace Go.Proofs
open Go.Sv Go Go.Tb Go.Pl Go.Ut Go.Li Go.Ps
end Go.Proofs

