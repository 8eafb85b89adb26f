/- A text of the prover's own. -/
import Derived.Test.YtnimjdcaajmfcaaGreatDoorBKo
open List renaming getD_eq_getElem?_getD->avb,replicate->asr,any_cons->avX,take_of_length_le->aud,length_set->avs,range->ati
open Bool renaming or_eq_false_iff->avS
namespace Go.Sx
open Go Go.Sv Go.Pl Go.Proofs Go.Tb Go.Ut Go.Mx Go.Li Go.Dt
theorem LN{α:Type}[Inhabited α]{a b:List α}{k:Nat}(h:k<a.length):gt (a++b) k=gt a k:=by simp only[gt,avb];rw[List.getElem?_append_left h]
theorem Ls{α:Type}[Inhabited α]{a b:List α}{k:Nat}(h:a.length<=k):gt (a++b) k=gt b (k - a.length):=by simp only[gt,avb];rw[List.getElem?_append_right h]
theorem OU{α:Type}[Inhabited α]{n i:Nat}{x:α}(h:i<n):gt (asr n x) i=x:=by simp[gt,h]
def z7(ts:List Term)(k:Nat):Bool:=ts.any λt=>decide (t.g9=(k:Int))
theorem KB{n:Nat}:∀{ts:List Term} {c:Int},fJ n c ts=false->∀k:Nat,(k:Int)<=c->z7 ts k=false
 | [],_,_,_,_=>rfl
 | t::ts,c,h,k,hk=>by simp only[fJ,avS,decide_eq_false_iff_not]at h;have:=KB h.2 k (by omega);simp only[z7,avX,avS,decide_eq_false_iff_not];exact⟨by omega,this⟩
theorem Bu{n:Nat}:∀{ts:List Term} {c:Int},fJ n c ts=false -> -1<=c->∀t∈ts,∃k:Nat,t.g9=k∧k<n
 | t::ts,c,h,hc,x,hx=>by
  simp only[fJ,avS,decide_eq_false_iff_not]at h;rcases List.mem_cons.1 hx with rfl | hx
  ·exact⟨x.g9.toNat,by omega,by omega⟩
  ·exact Bu h.2 (by omega) x hx
theorem um:∀{ts:List Term} {k:Nat},z7 ts k=false->cW ts k=0
 | [],_,_=>rfl
 | t::ts,k,h=>by simp only[z7,avX,avS,decide_eq_false_iff_not]at h;unfold cW;rw[if_neg h.1];exact um h.2
theorem Hk{n:Nat}:∀{ts:List Term} {c:Int} {l:List Rat} {k:Nat},fJ n c ts=false -> -1<=c->k<l.length->gt (oZ l ts) k=if z7 ts k=true then cW ts k else gt l k
 | [],_,l,k,_,_,_=>rfl
 | t::ts,c,l,k,h,hc,hk=>by
  simp only[fJ,avS,decide_eq_false_iff_not]at h;unfold oZ;rw[Hk h.2 (by omega) (by simpa using hk),bG hk];by_cases e:t.g9=(k:Int)
  ·have no:=KB h.2 k (by omega);rw[if_neg (by simp[no]),if_pos (by omega),if_pos (by simp[z7,e])];unfold cW;rw[if_pos e]
  ·have e1:z7 (t::ts) k=z7 ts k:=by simp[z7,e]
   have e2:cW (t::ts) k=cW ts k:=if_neg e;rw[e1,e2,if_neg (show ¬t.g9.toNat=k by omega)]
theorem wJ{p:aB}{n N i k:Nat}(h:fJ n (-1) (gt p.rows i).aC=false)(hk:k<N):gt (BW p N i) k=cW (gt p.rows i).aC k:=by
 unfold BW;rw[Hk h (by omega) (by simpa using hk)];split
 ·rfl
 ·rename_i e;rw[um (by simpa using e),OU hk]
theorem zy{n k:Nat}{ts:List Term}(h:fJ n (-1) ts=false)(hk:n<=k):cW ts k=0:=by refine um ?_;unfold z7;rw[List.any_eq_false];intro t ht;obtain⟨j,e,hj⟩:=Bu h (by omega) t ht;simp only[decide_eq_true_eq];omega
def Nf(p:aB)(n m N:Nat):Tb:={ rM p n m N with x:=uu (rM p n m N) N m }
theorem jE{n m i:Nat}(h:i<m):gt (jD n m) i=n+i:=by unfold jD;rw[bF _ h]
theorem tM{p:aB}{N m i:Nat}(h:i<m):gt (gN p N m) i=BW p N i:=by unfold gN;rw[bF _ h]
theorem Lj{p:aB}{n m N:Nat}(hN:n+m=N):ui (bV p n m N) (rM p n m N) where
 w:=by simp[rM,bV]
 x:=by simp[rM,bV]
 b:=by simp[rM,bV,jD]
 r:=by simp[rM,bV]
 R:=by simp[rM,bV]
 Rr i hi:=by replace hi:i<m:=hi;show(gt (gN p N m) i).length=N;rw[tM hi];simp[BW]
 bb i hi:=by replace hi:i<m:=hi;show gt (jD n m) i<N;rw[jE hi];omega
theorem Ng{p:aB}{n m N:Nat}(hN:n+m=N)(hb:∀i,i<m->fJ n (-1) (gt p.rows i).aC=false):u9 (Kp p n m) N m (jD n m) (gN p N m) where
 bl i hi:=by rw[jE hi];omega
 inj i k hi hk e:=by rw[jE hi,jE hk]at e;omega
 z0 r i hr hi:=by rw[jE hi,tM hr,wJ (hb r hr) (by omega),zy (hb r hr) (by omega)]
 sat z:=by
  have e:∀r,r<m->aH (λk=>gt (gt (gN p N m) r) k*z k) N=aH (λk=>cW (gt p.rows r).aC k*z k) n:=λr hr=>by rw[tM hr,aQ (g:=λk=>cW (gt p.rows r).aC k*z k) N (λk hk=>by rw[wJ (hb r hr) hk])];exact tq N (by omega) λk h1 _=>by rw[zy (hb r hr) h1,Rat.zero_mul]
  constructor
  ·intro hz r hr;rw[jE hr,e r hr];exact hz r hr
  ·intro hz r hr;have:=hz r hr;rw[jE hr,e r hr]at this;exact this
theorem Td{p:aB}{n m N:Nat}(hN:n+m=N):vu (bV p n m N) (rM p n m N):=λk hk=>by
 replace hk:k<N:=hk;have e:gt (rM p n m N).row k=rF n k:=by show gt (dH N N (rF n) 0) k=_;rw[jk hk,if_pos hk]
 rw[e];unfold rF;by_cases h:k<n
 ·rw[if_pos h];refine .inr ⟨rfl,λi hi=>?_⟩;replace hi:i<m:=hi;show gt (jD n m) i≠k;rw[jE hi];omega
 ·rw[if_neg h];refine .inl ⟨k - n,show k - n<m by omega,?_,by omega⟩;show gt (jD n m) (k - n)=k;rw[jE (by omega)];omega
theorem Rf{p:aB}{n m N:Nat}(hm:p.rows.length=m)(hw:cT p)(hb:∀i,i<m->fJ n (-1) (gt p.rows i).aC=false):∀i,i<m->Wd 2200 (gt (gN p N m) i):=λi hi k hk=>by rw[tM hi]at hk ⊢;rw[wJ (hb i hi) (by simpa[BW]using hk)];exact qK (by omega) λq hq=>hw.te i (by omega) q hq
theorem R4{p:aB}{n m N:Nat}(hN:n+m=N)(hm:p.rows.length=m)(hw:cT p)(hb:∀i,i<m->fJ n (-1) (gt p.rows i).aC=false)(w:List Int):Jj (bV p n m N) (Kp p n m) w (Nf p n m N) 0 where
 t:=by have t:=Lj (p:=p) hN;exact⟨t.w,by show(uu (rM p n m N) N m).length=N;rw[pZ];exact t.x,t.b,t.r,t.R,t.Rr,t.bb⟩
 d:=Ng hN hb
 r:=Td hN
 a k hk:=by omega
 w:=⟨0,Nat.le_refl _,λi hi=>by have:=Rf (N:=N) hm hw hb i hi;rw[Nat.pow_zero,Nat.mul_one];exact this⟩
theorem CN{p:aB}{n m N:Nat}(hn:p.ab.length=n)(hm:p.rows.length=m)(hN:n+m=N)(aa:N<=14)(h7:m<=7):oR (bV p n m N) where
 m7:=h7
 sq:=aa
 lo:=by show(gO p m).length=N;simp[gO,pI,hn,hm,hN]
 hi:=by show(dF p m).length=N;simp[dF,j3,hn,hm,hN]
 co:=by show(dH N n (o3 p) 0).length=N;simp
theorem qt{p:aB}{n m k:Nat}(hn:p.ab.length=n)(hm:p.rows.length=m)(hk:k<n+m):gt (gO p m) k=if k<n then(gt p.ab k).low else(gt p.rows (k - n)).low:=by
 unfold gO pI;by_cases h:k<n
 ·rw[if_pos h,LN (by simp[hn,h]),jj _ (by omega)]
 ·rw[if_neg h,Ls (by simp[hn];omega),aud (by omega),jj _ (by simp[hn];omega)];simp[hn]
theorem mP{p:aB}{n m k:Nat}(hn:p.ab.length=n)(hm:p.rows.length=m)(hk:k<n+m):gt (dF p m) k=if k<n then(gt p.ab k).high else(gt p.rows (k - n)).high:=by
 unfold dF j3;by_cases h:k<n
 ·rw[if_pos h,LN (by simp[hn,h]),jj _ (by omega)]
 ·rw[if_neg h,Ls (by simp[hn];omega),aud (by omega),jj _ (by simp[hn];omega)];simp[hn]
theorem Q6{p:aB}{n m N:Nat}(hn:p.ab.length=n)(hm:p.rows.length=m)(hN:n+m=N)(hw:cT p):zG (bV p n m N) where
 lo k hk:=by
  replace hk:k<N:=hk;show qw 2200 (gt (gO p m) k).at';rw[qt hn hm (by omega)];split
  ·exact(hw.co k (by omega)).2.1
  ·exact(hw.ro _ (by omega)).1
 hi k hk:=by
  replace hk:k<N:=hk;show qw 2200 (gt (dF p m) k).at';rw[mP hn hm (by omega)];split
  ·exact(hw.co k (by omega)).2.2
  ·exact(hw.ro _ (by omega)).2
def uw(p:aB)(n k:Nat):Rat:=if k<n then(gt p.ab k).cost else 0
theorem pW{p:aB}{n m N:Nat}{k:Nat}(hk:k<N):gt (bV p n m N).cost k=if p.max=true then -uw p n k else uw p n k:=by
 show gt (dH N n (o3 p) 0) k=_;rw[jk hk];unfold o3 uw;by_cases h:k<n
 ·simp only[if_pos h]
 ·simp only[if_neg h];split<;>rfl
end Go.Sx
namespace Go.Proofs
open Go.Sv Go Go.Tb Go.Pl Go.Ut Go.Mx Go.Li Go.Dt Go.Sx
end Go.Proofs
namespace Go.Sx
open Go Go.Sv Go.Pl Go.Proofs Go.Tb Go.Ut Go.Mx Go.Li Go.Dt
def bD(m:Nat)(R:List (List Rat))(i k:Nat):Rat:=if k<m then 0 else -(gt (gt R i) k)
def byM(w:List Int)(N m:Nat)(R:List (List Rat))(i:Nat):Nat->List SV
 | 0=>asr N (aU 0)
 | k+1=>(byM w N m R i k).set (gt (oL w N) k) (cI (bD m R i k))
@[simp] theorem Qd(w:List Int)(N m:Nat)(R:List (List Rat))(i:Nat):∀k,(byM w N m R i k).length=N
 | 0=>by simp[byM]
 | k+1=>by simp only[byM,avs];exact Qd w N m R i k
def sD(f:Nat->Rat)(w:List Int)(N m:Nat)(R:List (List Rat))(i k:Nat):Rat:=aH (λk=>bD m R i k*f (gt (oL w N) k)) k
def xS(f:Nat->Rat)(w:List Int)(N m:Nat)(R:List (List Rat)):Nat->List Rat
 | 0=>(ati N).map f
 | i+1=>(xS f w N m R i).set (gt (bL w N) i) (sD f w N m R i N)
@[simp] theorem T7(f:Nat->Rat)(w:List Int)(N m:Nat)(R:List (List Rat)):∀i,(xS f w N m R i).length=N
 | 0=>by simp[xS]
 | i+1=>by simp only[xS,avs];exact T7 f w N m R i
def coS(f:Nat->Rat)(w:List Int)(N m:Nat)(R:List (List Rat))(i q:Nat):Rat:=if gt w q=1 then 0 else f q+aH (λr=>gt (VA w N m R r) q*f (gt (bL w N) r)) i
def Yw(f:Nat->Rat)(w:List Int)(N m:Nat)(R:List (List Rat))(i:Nat):Nat->List Rat
 | 0=>(ati N).map (coS f w N m R i)
 | k+1=>(Yw f w N m R i k).set (gt (oL w N) k) (gt (Yw f w N m R i k) (gt (oL w N) k)+bD m R i k*f (gt (bL w N) i))
@[simp] theorem PW(f:Nat->Rat)(w:List Int)(N m:Nat)(R:List (List Rat))(i:Nat):∀k,(Yw f w N m R i k).length=N
 | 0=>by simp[Yw]
 | k+1=>by simp only[Yw,avs];exact PW f w N m R i k
end Go.Sx
namespace Go.Proofs
open Go.Sv Go Go.Tb Go.Pl Go.Ut Go.Mx Go.Li Go.Dt Go.Sx
end Go.Proofs

