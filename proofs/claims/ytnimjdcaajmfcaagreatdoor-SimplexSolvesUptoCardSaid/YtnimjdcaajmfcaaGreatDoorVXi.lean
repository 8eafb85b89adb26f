/- A text of the prover's own. -/
import Derived.Test.YtnimjdcaajmfcaaGreatDoorVXg
import Derived.Test.YtnimjdcaajmfcaaGreatDoorVUf
open List renaming range->ayq,mem_range->aBF,cons_append->ayb,nil_append->aAf,length_cons->awV,getElem?_cons_zero->ayc,getElem?_cons_succ->aB9
open Nat renaming le_refl->axq
open Option renaming getD_some->ayj
namespace Go.Sx
open Go Go.Sv Go.Pl Go.Proofs Go.Tb Go.Ut Go.Mx Go.Li Go.Dt
def QO(b:List Nat)(m N:Nat):List Int:=(ayq N).map λk=>if(ayq m).any (λi=>decide (gt b i=k))=true then 1 else 0
theorem O0{b:List Nat}{m N k:Nat}(hk:k<N):gt (QO b m N) k=if(ayq m).any (λi=>decide (gt b i=k))=true then 1 else 0:=by unfold QO;rw[aV _ hk]
theorem Kl{b:List Nat}{m N k:Nat}(hk:k<N):gt (QO b m N) k=1↔∃i,i<m∧gt b i=k:=by
 rw[O0 hk];have e:(ayq m).any (λi=>decide (gt b i=k))=true↔∃i,i<m∧gt b i=k:=by
  rw[List.any_eq_true];constructor
  ·rintro⟨i,hi,h⟩;exact⟨i,aBF.1 hi,by simpa using h⟩
  ·rintro⟨i,hi,h⟩;exact⟨i,aBF.2 hi,by simpa using h⟩
 by_cases h:(ayq m).any (λi=>decide (gt b i=k))=true
 ·rw[if_pos h];exact⟨λ_=>e.1 h,λ_=>rfl⟩
 ·rw[if_neg h];exact⟨λg=>by simp at g,λg=>absurd (e.2 g) h⟩
theorem Wq{b:List Nat}{m N k:Nat}(hk:k<N)(h:gt (QO b m N) k≠1):gt (QO b m N) k=0:=by
 rw[O0 hk]at h ⊢;split
 ·rename_i g;rw[if_pos g]at h;exact absurd rfl h
 ·rfl
theorem HX(w:List Int):∀N,eG w N=nz (λk=>decide (gt w k=1)) N
 | 0=>rfl
 | k+1=>by simp only[eG,nz,HX w k,decide_eq_true_eq]
theorem RF{K:(Nat->Rat)->Prop}{N m:Nat}{b:List Nat}{R:List (List Rat)}(p:aB)(n:Nat)(h:xH K N m b R):eG (QO b m N) N=m:=by
 classical
 have e:=xy (c:=⟨p,n,m,N,[],[],[]⟩) (s:=⟨[],[],b,[],R⟩) h (λ_=>(1:Rat));have e1:((nz (λk=>decide (gt (QO b m N) k=1)) N:Nat):Rat)=((m:Nat):Rat):=by
  rw[It,<-wO m];refine Eq.trans ?_ e;refine aO _ λk hk=>?_;have:=Kl (b:=b) (m:=m) (N:=N) hk;by_cases q:gt (QO b m N) k=1
  ·rw[if_pos (by simpa using q),if_pos (this.1 q)]
  ·rw[if_neg (by simpa using q),if_neg λg=>q (this.2 g)]
 rw[HX];exact Rat.natCast_inj.1 e1
theorem xH.ord{K:(Nat->Rat)->Prop}{N m:Nat}{b b':List Nat}{B:List (List Rat)}(h:xH K N m b' B){ρ:Nat->Nat}(h1:∀i,i<m->ρ i<m∧gt b' (ρ i)=gt b i)(h2:∀r,r<m->∃i,i<m∧ρ i=r)(hb:∀i k,i<m->k<m->gt b i=gt b k->i=k):xH K N m b ((ayq m).map λi=>gt B (ρ i)) where
 bl i hi:=by rw[<-(h1 i hi).2];exact h.bl _ (h1 i hi).1
 inj:=hb
 z0 r i hr hi:=by rw[aV _ hr,<-(h1 i hi).2];exact h.z0 _ _ (h1 r hr).1 (h1 i hi).1
 sat z:=by
  rw[h.sat z];constructor
  ·intro hz r hr;rw[aV _ hr,<-(h1 r hr).2];exact hz _ (h1 r hr).1
  ·intro hz r hr;obtain⟨i,hi,rfl⟩:=h2 r hr;have:=hz i hi;rw[aV _ hi,<-(h1 i hi).2]at this;exact this
theorem NR{p:aB}{n m N:Nat}(hm:p.rows.length=m)(hw:cW p)(h7:m<=7)(hN:n+m=N)(b:List Nat)(R:List (List Rat))(h:xH (Kp p n m) N m b R)(hl:∀i,i<m->(gt R i).length=N):∀i,i<m->Wd 171875000 (gt R i):=by
 have hn:=RF p n h;generalize af:QO b m N=w at hn;have w1:∀k,k<N->(gt w k=1↔∃i,i<m∧gt b i=k):=λk hk=>by rw[<-af];exact Kl hk
 have hB:HQ (⟨p,n,m,N,[],[],[]⟩:Tc) (Kp p n m) w:=by
  refine⟨by rw[<-af];simp[QO],λk hk=>?_,hn,λz hz aj k hk=>?_⟩
  ·by_cases q:gt w k=1
   ·exact .inl q
   ·exact .inr (.inr (.inr ⟨by rw[<-af]at q ⊢;exact Wq hk q,rfl,rfl⟩))
  ·by_cases q:gt w k=1
   ·obtain⟨i,hi,rfl⟩:=(w1 k hk).1 q;rw[(h.sat z).1 hz i hi];refine fi N λx hx=>?_;by_cases q2:gt w x=1
    ·obtain⟨a,ha,rfl⟩:=(w1 x hx).1 q2;rw[h.z0 i a hi ha,Rat.zero_mul]
    ·rw[aj x hx q2,Rat.mul_zero]
   ·exact aj k hk q
 have tw:=Kd (p:=p) (n:=n) (m:=m) (N:=N) hm hw (oL w N);rcases Kn (EG p n m N (oL w N)) (show m<=N by omega)with g | ⟨q,hq,g⟩
 ·have dd:=Aq (c:=(⟨p,n,m,N,[],[],[]⟩:Tc)) (w:=w) hN hn g;have ak:=uv tw N (axq _);generalize bU (iq p n m N (oL w N)) N=s at *;have el:s.2.length=m:=by rw[g.f];simp
  rw[el]at ak;have ex:∀i,∃r,i<m->r<m∧gt (bL w N) r=gt b i:=λi=>by
   by_cases hi:i<m
   ·obtain⟨r,hr,e⟩:=xf (w:=w) (N:=N) (h.bl i hi) ((w1 _ (h.bl i hi)).2 ⟨i,hi,rfl⟩);exact⟨r,λ_=>⟨by omega,e⟩⟩
   ·exact⟨0,λq=>absurd q hi⟩
  obtain⟨ρ,hρ⟩:=Classical.axiomOfChoice ex;have d2:=dd.ord (b:=b) (ρ:=ρ) hρ (λr hr=>by
   have hr:r<m:=hr;obtain⟨e1,e2⟩:=mf (w:=w) (N:=N) (k:=r) (by show r<eG w N;omega);obtain⟨i,hi,e⟩:=(w1 _ e1).1 e2;refine⟨i,hi,zJ (w:=w) (N:=N) ?_ ?_ ?_⟩
   ·have:=(hρ i hi).1;omega
   ·omega
   ·rw[(hρ i hi).2,e]) h.inj
  intro i hi k hk;have hk:k<N:=by rw[<-hl i hi];exact hk
  have hr:=(hρ i hi).1;rw[h.uniq d2 hi hk,aV _ hi,aV _ hr];obtain⟨x,hx,rfl⟩:=wB (w:=w) hk;rw[qZ hx];split
  ·exact Proofs.cC (by omega)
  ·exact fh (ax (ak.1.q _ x hr hx) (EH (axq _) h7))
 ·exact absurd hB (JK (c:=(⟨p,n,m,N,[],[],[]⟩:Tc)) hN hn hq g)
end Go.Sx
set_option maxRecDepth 10000
namespace Go.Proofs
open Go.Sv Go Go.Tb Go.Pl Go.Ut Go.Mx Go.Li Go.Dt Go.Sx
theorem Mc(p:aB)(n m N:Nat)(hn:p.ai.length=n)(hm:p.rows.length=m)(hN:n+m=N)(ad:N<=14)(h7:m<=7)(hw:cW p)(an:∀i,i<m->(gt p.rows i).aI.length<=1000000)(hb:∀i,i<m->gH n (-1) (gt p.rows i).aI=false) :
  kZ Tryz.prog 77 [.dG (bS p) 0] [] [] (λT y=>T=tT (bC p n m N) (Nn p n m N) []∧y=.ptr 0 0 0):=by
 refine iG Tryz.func77 rfl (by simp) (λC hC=>?_);have hC:C.fx=[]:=by simpa using hC
 show aa _ _ aF _ (im Tryz.prog [.tmp 2] _ _);refine V8 p n m N hn hm hN ad hC (λc st h=>h) ?_;refine VU p n m N hn hN ad hC (λc st h=>h) ?_;rw[afo p n m N hn];refine XC p n m N hn hm hN ad (λi hi t ht=>?_) an hC (λc st h=>h) ?_
 ·obtain⟨k,e,hk⟩:=DX (hb i hi) (by omega) t ht;exact⟨k,e,by omega⟩
 refine aa.le ((U5 p n m N hn hm hN).trans ((Vg p n m N hn hm hN).trans ((Vk p n m N hn hm hN).trans (Vn p n m N hC)))) ?_;have hR:(tK p n m N).R.length=m:=by simp[tK]
 have tb:=NY (p:=p) hN;have fw:=UL (N:=N) hm hw hb;have rk:=IG (bC p n m N) (tK p n m N) (EJ hn hm hN ad h7) tb (W:=2200) (V:=2200) (by omega) (λi j hi hj=>fw i hi j (by have:=tb.Rr i hi;show j<(gt (tK p n m N).R i).length;rw[this];exact hj)) (λi k hi hk hz=>by
  replace hi:i<m:=hi;replace hk:k<N:=hk;have aq:k<n:=by apply Classical.byContradiction;intro hc;apply hz;show gt (gt (iB p N m) i) k=0;rw[vB hi,yK (hb i hi) hk,Ax (hb i hi) (by omega)]
  rw[vK tb hk (λq hq e=>by replace hq:q<m:=hq;have:gt (kf n m) q=k:=e;rw[j8 hq]at this;omega) i (Nat.le_of_lt hi)]
  show qw 2200 (gt (du N n (uu p) 0) k);rw[jL hk,if_pos aq];unfold uu;split
  ·exact(hw.co k (by omega)).2.1
  ·split
   ·exact(hw.co k (by omega)).2.2
   ·exact Proofs.cC (by omega)) (by show 1+N*_<=_;omega)
 simp only[aF,Tryz.f77,ayj,ah,ab];refine aa.go ?_;have eT:tT (bC p n m N) (tK p n m N) []=tH (bC p n m N) (tK p n m N)++eH (tK p n m N).R:=by simp[tT]
 rw[eT];generalize hc:bC p n m N=c at *;generalize hs:tK p n m N=s at *;have ae:c.m=m:=by rw[<-hc];rfl
 simp;refine Ei (s:=s) rk (by rw[hR,ae]) (by simp) (by simp) ?_;rintro T1 y ⟨rfl,rfl⟩;refine⟨_,rfl,by rw[ae];exact hR,by simp,?_⟩;simp only[tH,tS,ayb,aAf];simp;refine⟨_,_,⟨rfl,rfl⟩,rfl,?_,.inl ?_⟩
 ·subst hc hs;show fj _ (tT (bC p n m N) (Nn p n m N) []);rw[tT,List.append_nil];exact ao _
 ·subst hc hs;simp[tT,tH,Nn,bC]
end Go.Proofs
namespace Go.Sx
open Go Go.Sv Go.Pl Go.Proofs Go.Tb Go.Ut Go.Mx Go.Li Go.Dt
def frQ(b:List Nat)(By:List (List Rat))(x co:List Rat):SV:=.agg [.ro (b.map cv),.ro (By.map rlv),.ro (x.map aS),.ro (co.map aS)]
def piF(s:Tb)(w:List Int)(j:Nat):List Nat:=(bL w j).map λq=>(gt s.row q).toNat
def byW(s:Tb)(w:List Int)(N j:Nat):List SV:=(piF s w j).map (R5 N)
def tlF(c:Tc)(s:Tb)(w:List Int)(mx:Bool)(j:Nat):aC:=[some ⟨4,[.agg [.view (c.m+7) 0 (eG w j),.view (c.m+8) 0 (eG w j),.view 2 0 c.N,.view (c.m+9) 0 j]],false⟩,some ⟨1,(bL w j).map cv,false⟩,some ⟨1,byW s w c.N j,false⟩,some ⟨4,((MX c s w mx).map aS).take j,false⟩]
end Go.Sx
namespace Go.Sx
open Go Go.Sv Go.Pl Go.Proofs Go.Tb Go.Ut Go.Mx Go.Li Go.Dt
def sgG(m k:Nat):Nat:=if k=0 then 0 else k+m
end Go.Sx
namespace Go.Sx
open Go Go.Sv Go.Pl Go.Proofs Go.Tb Go.Ut Go.Mx Go.Li Go.Dt
theorem vR{n:Nat}:∀{ts:List Term} {c:Int},gH n c ts=false -> -1<=c->(ts.length:Int)<=n - 1 - c∨ts=[]
 | [],_,_,_=>.inr rfl
 | t::ts,c,h,hc=>by
  simp only[gH,Bool.or_eq_false_iff,decide_eq_false_iff_not]at h;left;rcases vR h.2 (by omega)with q | q
  ·simp only[awV];omega
  ·rw[q];simp only[awV,List.length_nil];omega
theorem ob{p:aB}(h:bA p=0){i:Nat}(hi:i<p.rows.length):gH p.ai.length (-1) (gt p.rows i).aI=false:=by
 cases hb:gH p.ai.length (-1) (gt p.rows i).aI with
 | false=>rfl
 | true =>
  have:=yS hi hb;unfold bA at h;rw[this]at h;split at h
  ·omega
  ·split at h
   ·omega
   ·simp at h
end Go.Sx
namespace Go.Proofs
open Go.Sv Go Go.Tb Go.Pl Go.Ut Go.Mx Go.Li Go.Dt Go.Sx
end Go.Proofs
set_option maxRecDepth 10000
namespace Go.Sx
open Go Go.Sv Go.Pl Go.Proofs Go.Tb Go.Ut Go.Mx Go.Li Go.Dt
theorem Ws(p:aB)(k:Nat):BH p k≠1:=by
 unfold BH;split
 ·decide
 ·split<;>decide
theorem JG{p:aB}{n m N k:Nat}(hk:k<N):gt (Nn p n m N).wh k=if k<n then BH p k else 1:=by show gt (du N N (wF p n) 0) k=_;rw[jL hk,if_pos hk];rfl
theorem Xj{p:aB}{n m N:Nat}(hn:p.ai.length=n)(hm:p.rows.length=m)(hN:n+m=N)(hw:cW p)(hb:∀i,i<m->gH n (-1) (gt p.rows i).aI=false):fm (bC p n m N) (Kp p n m) (Nn p n m N):=by
 have hs:=Xk hN hm hw hb [];have tb:=NY (p:=p) hN;have dd:=Ox (N:=N) hN hb;have nb:∀k,k<n->∀i,i<m->gt (kf n m) i≠k:=λk hk i hi e=>by rw[j8 hi]at e;omega
 have xo:∀k,k<n->gt (Nn p n m N).x k=uu p k:=λk hk=>by show gt (xz (tK p n m N) N m) k=_;have:=vK (c:=bC p n m N) tb (k:=k) (by show k<N;omega) (nb k hk) m (axq _);refine this.trans ?_;show gt (du N n (uu p) 0) k=_;rw[jL (by omega),if_pos hk]
 refine⟨hs.t,dd,hs.r,λk hk=>?_,λk hk=>?_,λk hk ag=>?_,λr hr=>?_⟩
 ·replace hk:k<N:=hk;rw[JG hk];constructor
  ·intro h;by_cases q:k<n
   ·rw[if_pos q]at h;exact absurd h (Ws p k)
   ·exact⟨k - n,by show k - n<m;omega,by show gt (kf n m) (k - n)=k;rw[j8 (by omega)];omega⟩
  ·rintro⟨i,hi,e⟩;replace hi:i<m:=hi;have e:gt (kf n m) i=k:=e;rw[j8 hi]at e;rw[if_neg (by omega)]
 ·replace hk:k<N:=hk;unfold fit;rw[JG hk];by_cases q:k<n
  ·rw[if_pos q];have gl:gt (bC p n m N).low k=(gt p.ai k).low:=by show gt (fW p m) k=_;rw[pG hn hm (by omega),if_pos q]
   have gh:gt (bC p n m N).high k=(gt p.ai k).high:=by show gt (dt p m) k=_;rw[mi hn hm (by omega),if_pos q]
   rw[gl,gh];unfold BH;by_cases h1:(gt p.ai k).low.has=true
   ·rw[if_pos h1];exact .inr (.inl ⟨rfl,h1⟩)
   ·rw[if_neg h1];by_cases h2:(gt p.ai k).high.has=true
    ·rw[if_pos h2];exact .inr (.inr (.inl ⟨rfl,h2⟩))
    ·rw[if_neg h2];exact .inr (.inr (.inr ⟨rfl,by simpa using h1,by simpa using h2⟩))
  ·rw[if_neg q];exact .inl rfl
 ·replace hk:k<N:=hk;rw[JG hk]at ag;by_cases q:k<n
  ·rw[xo k q];unfold xw;rw[JG hk,if_pos q];have gl:gt (bC p n m N).low k=(gt p.ai k).low:=by show gt (fW p m) k=_;rw[pG hn hm (by omega),if_pos q]
   have gh:gt (bC p n m N).high k=(gt p.ai k).high:=by show gt (dt p m) k=_;rw[mi hn hm (by omega),if_pos q]
   rw[gl,gh];unfold BH uu;by_cases h1:(gt p.ai k).low.has=true
   ·simp only[if_pos h1,if_true]
   ·by_cases h2:(gt p.ai k).high.has=true
    ·simp only[if_neg h1,if_pos h2];rw[if_neg (by decide),if_pos trivial]
    ·simp only[if_neg h1,if_neg h2];rw[if_neg (by decide),if_neg (by decide)]
  ·rw[if_neg q]at ag;exact absurd rfl ag
 ·replace hr:r<m:=hr;have e1:=GP (c:=bC p n m N) tb dd m (axq _) r hr;have e2:=M6 (c:=bC p n m N) tb dd (r:=r) (i:=m) hr (axq _);exact e1.trans e2.symm
end Go.Sx
namespace Go.Sv
open Go
section
variable {σ τ:Nat->Nat} {n:Nat}
mutual
theorem M5(h:∀i,i<n->σ i=τ i):∀x:SV,x.lt n=true->gJ σ x=gJ τ x
 | .val _,_=>by simp
 | .ptr k _ _,hx=>by simp only[SV.lt,decide_eq_true_eq]at hx;simp[h k hx]
 | .view k _ _,hx=>by simp only[SV.lt,decide_eq_true_eq]at hx;simp[h k hx]
 | .ro _,_=>by simp
 | .dG _ _,_=>by simp
 | .agg l,hx=>by simp only[SV.lt]at hx;rw[Ew,Ew,sN h l hx]
 | .bM l,hx=>by simp only[SV.lt]at hx;rw[EF,EF,sN h l hx]
 | .ju _ x,hx=>by simp only[SV.lt]at hx;rw[D6,D6,M5 h x hx]
 | .fT _ _,_=>by simp
 | .any,_=>by simp
 | .j7 _ l r,hx=>by simp only[SV.lt,Bool.and_eq_true]at hx;rw[Ev,Ev,sN h l hx.1,sN h r hx.2]
 | .mp k,hx=>by simp only[SV.lt,decide_eq_true_eq]at hx;simp[h k hx]
theorem sN(h:∀i,i<n->σ i=τ i):∀l:List SV,SV.j3 n l=true->dW σ l=dW τ l
 | [],_=>by simp
 | x::l,hx=>by simp only[SV.j3,Bool.and_eq_true]at hx;rw[oU,oU,M5 h x hx.1,sN h l hx.2]
end
theorem Hz{n:Nat}:∀{T:aC} {k:Nat} {e:cJ},whole n T->T[k]?=some (some e)->SV.j3 n e.es=true
 | none::_,_,_,h,_=>h.elim
 | some x::T,0,e,h,hk=>by simp only[ayc,Option.some.injEq]at hk;rw[<-hk];exact h.1
 | some x::T,k+1,e,h,hk=>by rw[aB9]at hk;exact Hz h.2 hk
end
end Go.Sv
namespace Go.Sx
open Go Go.Sv Go.Pl Go.Proofs Go.Tb Go.Ut Go.Mx Go.Li Go.Dt
theorem IQ{P:Program}{C:Ctx}{f:FuncId}{args:List SV}{c:Tc}{s:Tb}{e0:Option cJ}{W:Option (List Nat)}{K:aC->List Nat->SV->Prop}(h:kZ P f args [] [] (λT y=>T=tT c s []∧y=.ptr 0 0 0))
  (ha:SV.bF args=true) (hK:K (e0::(tT c s []).map (λe=>e.map (fP λi=>1+i))) [] (.ptr 1 0 0)):dK P C f args [e0] W K:=by
 refine m5 h [] List.nodup_nil trivial (iU _ _ ha).symm (λk hk=>by cases hk) (λks _=>⟨rfl,λk hk=>by cases hk⟩) ?_;rintro T1 y ⟨rfl,rfl⟩;exact hK
theorem OP{C:Ctx}(hC:C.fx=[]){c:Tc}{s:Tb}(hR:s.R.length=c.m){N0:Nat}{sz:Nat}{es:List SV}(he:SV.bF es=true){fr fr':List (Nat × SV)}(hf:∀t x,Go.Sv.get fr' t=some x->Go.Sv.get fr t=some (gJ (λk=>if k<c.m+6 then k+1 else if k=c.m+6 then 0 else k) x)) :
  Le C ⟨N0,fr,some ⟨sz,es,false⟩::(tT c s []).map (λe=>e.map (fP λi=>1+i))⟩ ⟨N0,fr',tT c s [some ⟨sz,es,false⟩]⟩:=by
 have l1:(tT c s []).length=c.m+6:=by rw[jW hR];rfl
 have l2:(tT c s [some ⟨sz,es,false⟩]).length=c.m+7:=by rw[jW hR];rfl
 have ap:tT c s [some ⟨sz,es,false⟩]=tT c s []++[some ⟨sz,es,false⟩]:=by simp[tT]
 refine Le.perm hC (λk=>if k<c.m+6 then k+1 else if k=c.m+6 then 0 else k) rfl (λa b ha hb e=>?_) (λk hk=>?_) (λk e hk=>?_) hf
 ·replace ha:a<(tT c s [some ⟨sz,es,false⟩]).length:=ha;replace hb:b<(tT c s [some ⟨sz,es,false⟩]).length:=hb;rw[l2]at ha hb;replace e:(if a<c.m+6 then a+1 else if a=c.m+6 then 0 else a)=if b<c.m+6 then b+1 else if b=c.m+6 then 0 else b:=e;split at e<;>split at e<;>(try split at e)<;>(try split at e)<;>omega
 ·replace hk:(tT c s [some ⟨sz,es,false⟩]).length<=k:=hk;rw[l2]at hk;show(some (⟨sz,es,false⟩:cJ)::(tT c s []).map (λe=>e.map (fP λi=>1+i))).length<=if k<c.m+6 then k+1 else if k=c.m+6 then 0 else k;rw[awV,List.length_map,l1,if_neg (by omega),if_neg (by omega)];exact hk
 ·replace hk:(tT c s [some ⟨sz,es,false⟩])[k]?=some (some e):=hk;show(some (⟨sz,es,false⟩:cJ)::(tT c s []).map (λe=>e.map (fP λi=>1+i)))[if k<c.m+6 then k+1 else if k=c.m+6 then 0 else k]?=_;by_cases q:k<c.m+6
  ·rw[if_pos q,aB9,List.getElem?_map];rw[ap,List.getElem?_append_left (by rw[l1];exact q)]at hk;rw[hk];have lt:=Hz (Ap s (n:=c.m+6) rfl) hk;simp only[Option.map_some];congr 2;unfold fP;rw[sN (n:=c.m+6) (σ:=λi=>1+i) (τ:=(λk=>if k<c.m+6 then k+1 else if k=c.m+6 then 0 else k)) (λi hi=>by show 1+i=if i<c.m+6 then i+1 else _;rw[if_pos hi];omega) _ lt]
  ·have av:k<c.m+7:=by
    have:=(List.getElem?_eq_some_iff.1 hk).1;rw[l2]at this;exact this
   obtain rfl:k=c.m+6:=by omega
   rw[if_neg q,if_pos rfl,ayc];rw[ap,List.getElem?_append_right (by rw[l1];omega),l1,Nat.sub_self,ayc]at hk;simp only[Option.some.injEq]at hk;subst hk;unfold fP;rw[iU _ _ he]
end Go.Sx
namespace Go.Proofs
open Go.Sv Go Go.Tb Go.Pl Go.Ut Go.Mx Go.Li Go.Dt Go.Sx
def anz(c:Tc)(K:(Nat->Rat)->Prop)(y:SV):Prop:=∃s cl,y=.bM [lS cl,.ro (s.wh.map iv),.val .nilIface]∧qy c K s cl
theorem E4(p:aB)(fw:BF p)(hv:bA p≠0):aE Tryz.prog 29 [.dG (bS p) 0] (.bM [lS jq,.ro [],II (bA p)]):=by
 have qv:=w7 p fw;refine nB Tryz.func29 rfl (by simp) (λC hC=>?_);simp;refine awI (qv) ?_;have e:∃s k,II (bA p)=.fT s k:=by unfold II;rw[if_neg hv];exact⟨_,_,rfl⟩
 obtain⟨s,k,e⟩:=e;rw[e];simp;refine⟨_,Le.nl _,?_⟩;have e5:SV.agg [.val (.int .i64 0),.ro [],.ro [],.ro [],.val (.bool false),.ro [],.val (.bool false),.ro []]=lS jq:=by have:lS jq=.agg (iv 0::.ro []::.ro []::.ro []::(aS 0).cells):=rfl;rw[this,<-ou];rfl
 simp[LW,Aa];rw[e5];simp
theorem zF(p:aB)(n m N:Nat)(hn:p.ai.length=n)(hm:p.rows.length=m)(hN:n+m=N)(n7:n<=7)(h7:m<=7)(fw:BF p)(hw:cW p)(hv:bA p=0) :
  qA Tryz.prog 29 [.dG (bS p) 0] (anz (bC p n m N) (Kp p n m)):=by
 have qv:=w7 p fw;rw[hv,Qy]at qv;have hb:∀i,i<m->gH n (-1) (gt p.rows i).aI=false:=λi hi=>by rw[<-hn];exact ob hv (by omega)
 have qf:=Mc p n m N hn hm hN (by omega) h7 hw (λi hi=>by
  rcases vR (hb i hi) (by omega)with q | q
  ·omega
  ·rw[q];simp) hb
 have ar:=Xj hn hm hN hw hb;have ae:(bC p n m N).m=m:=rfl;have au:=IC (bC p n m N) (Kp p n m) (EJ hn hm hN (by omega) h7) (Kt hn hm hN hw) (NR hm hw h7 hN) (λk hk=>by
  have hk:k<N:=by have:=(EJ hn hm hN (by omega) h7).co;rw[this]at hk;exact hk
  rw[o6 hk];have:qw 2200 (db p n k):=by
   unfold db;split
   ·exact(hw.co k (by omega)).1
   ·exact Proofs.cC (by omega)
  split
  ·exact fh this
  ·exact this) hN n7 fw hw hv hn (Nn p n m N) ar
 have al:(Nn p n m N).R.length=(bC p n m N).m:=by simp[Nn,tK,bC]
 have ac:(bC p n m N).m<=7∧(bC p n m N).N<=14:=⟨h7,by show N<=14;omega⟩;refine jA Tryz.func29 rfl (by simp) (λC hC=>?_);refine aa.wk ?_;have cp:(bC p n m N).p=p:=rfl;clear ae;generalize bC p n m N=c at *;generalize Nn p n m N=s0 at *;have aw:c.m<=7∧c.N<=14:=ac;refine aa.cutAt 3 (λst=>st=⟨23,[(2,.ptr 0 0 0),(6,.ptr 1 0 0)],some ⟨8,[dD 0],false⟩::(tT c s0 []).map (λe=>e.map (fP λi=>1+i))⟩) ?_ ?_
 ·simp only[Tryz.f29,aN,aL];simp[l6];refine awI qv ?_;simp;refine IQ qf (by simp) ?_;generalize (tT c s0 []).map (λe=>e.map (fP λi=>1+i))=T1;simp;exact⟨rfl,by simp[bY,Go.Sv.get],ao _,.inl rfl⟩
 ·rintro st rfl;have l1:=OP (C:=C) hC (c:=c) (s:=s0) al (N0:=23) (sz:=8) (es:=[dD 0]) (by simp[dD]) (fr:=[(2,.ptr 0 0 0),(6,.ptr 1 0 0)]) (fr':=[(2,.ptr (c.m+6) 0 0),(6,.ptr 0 0 0)]) (λt x hg=>by
   simp only[Go.Sv.get]at hg ⊢;split at hg
   ·rename_i e;rw[if_pos e];cases hg;simp
   ·rename_i e;rw[if_neg e];split at hg
    ·rename_i e2;rw[if_pos e2];cases hg;simp
    ·simp at hg)
  refine aa.le l1 ?_;simp only[Tryz.f29,ah,ab];simp only[tT,tH,tS,dD,ayb,aAf];refine aa.go ?_;simp;refine ek (tl:=[_]) au al (by simp) (by simp) ?_;rintro T1 y ⟨s,cl,rfl,rfl,ac⟩;have hR:=ac.1;refine⟨s,rfl,hR,by simp,?_⟩;simp only[tT,tH,tS,ayb,aAf];simp[hR,eP hR,eQ hR];refine aa.awH (.qs [0,1,2,3]<|.m 4 [] (.l 5 [c.m+6]<|.qs [6,7]<|.nil) 5 [c.m+6] (.l 4 []<|.qs [6,7]<|.nil)) ?_;simp[cN hR,cV hR,eP hR,xI,xd];have am:=ac.2.1.t.w;have tk:List.take c.N (s.wh.map iv)=s.wh.map iv:=List.take_of_length_le (by simp[am]);have sb:j6 1 (s.wh.map iv) (Dc c.N c.m)=Dc c.N c.m:=by unfold Dc;rw[JL];refine List.map_congr_left λi hi=>?_;simp only[R5,k6];rw[if_neg (by omega)]
  have l2:Le C ⟨23,[(2,.ptr (c.m+6) 0 0),(3,.view 1 0 c.N),(4,.val .nilIface)],tT c s [some ⟨8,[lS cl],false⟩]⟩ ⟨23,[(2,.ptr (c.m+6) 0 0),(3,.ro (s.wh.map iv)),(4,.val .nilIface)],yy 1 (s.wh.map iv) (aX (tT c s [some ⟨8,[lS cl],false⟩]) 1 (some ⟨1,s.wh.map iv,true⟩))⟩:=by refine(Le.uO 1 (e:=⟨1,s.wh.map iv,false⟩) rfl (by simp)).trans ?_;rw[Lf (e:=⟨1,s.wh.map iv,false⟩) rfl];exact Le.dE ⟨rfl,by simp[bY,Go.Sv.get,am,tk],ao _,.inl rfl⟩
  refine⟨_,(Le.dE (tF s (tl:=[some ⟨8,[lS cl],false⟩,some ⟨8,[lS cl],false⟩]) (tl':=[some ⟨8,[lS cl],false⟩]) (fr':=[(2,.ptr (c.m+6) 0 0),(3,.view 1 0 c.N),(4,.val .nilIface)]) hR (by simp[hC]) (by simp[bY,Go.Sv.get]) (by simp[fj]) (by simp[gK,SV.lt]) (by simp[eA]))).trans l2,?_⟩;simp only[aX,tT,tH,tS,ayb,aAf];simp[lA,nI,sb,tk,cN hR];exact⟨.bM [lS cl,.ro (s.wh.map iv),.val .nilIface],by simp,s,cl,rfl,ac⟩
end Go.Proofs

