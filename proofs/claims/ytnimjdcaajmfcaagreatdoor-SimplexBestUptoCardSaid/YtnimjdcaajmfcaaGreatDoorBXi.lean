/- A text of the prover's own. -/
import Derived.Test.YtnimjdcaajmfcaaGreatDoorBXg
import Derived.Test.YtnimjdcaajmfcaaGreatDoorBUf
open List renaming range->ati,mem_range->avp,cons_append->as8,nil_append->at3,length_cons->asw,getElem?_cons_zero->as9,getElem?_cons_succ->avP
open Nat renaming le_refl->asN
open Option renaming getD_some->ate
namespace Go.Sx
open Go Go.Sv Go.Pl Go.Proofs Go.Tb Go.Ut Go.Mx Go.Li Go.Dt
def NX(b:List Nat)(m N:Nat):List Int:=(ati N).map λk=>if(ati m).any (λi=>decide (gt b i=k))=true then 1 else 0
theorem NG{b:List Nat}{m N k:Nat}(hk:k<N):gt (NX b m N) k=if(ati m).any (λi=>decide (gt b i=k))=true then 1 else 0:=by unfold NX;rw[bF _ hk]
theorem HD{b:List Nat}{m N k:Nat}(hk:k<N):gt (NX b m N) k=1↔∃i,i<m∧gt b i=k:=by
 rw[NG hk];have e:(ati m).any (λi=>decide (gt b i=k))=true↔∃i,i<m∧gt b i=k:=by
  rw[List.any_eq_true];constructor
  ·rintro⟨i,hi,h⟩;exact⟨i,avp.1 hi,by simpa using h⟩
  ·rintro⟨i,hi,h⟩;exact⟨i,avp.2 hi,by simpa using h⟩
 by_cases h:(ati m).any (λi=>decide (gt b i=k))=true
 ·rw[if_pos h];exact⟨λ_=>e.1 h,λ_=>rfl⟩
 ·rw[if_neg h];exact⟨λg=>by simp at g,λg=>absurd (e.2 g) h⟩
theorem Tm{b:List Nat}{m N k:Nat}(hk:k<N)(h:gt (NX b m N) k≠1):gt (NX b m N) k=0:=by
 rw[NG hk]at h ⊢;split
 ·rename_i g;rw[if_pos g]at h;exact absurd rfl h
 ·rfl
theorem Mz(w:List Int):∀N,kQ w N=nz (λk=>decide (gt w k=1)) N
 | 0=>rfl
 | k+1=>by simp only[kQ,nz,Mz w k,decide_eq_true_eq]
theorem Qi{K:(Nat->Rat)->Prop}{N m:Nat}{b:List Nat}{R:List (List Rat)}(p:aB)(n:Nat)(h:u9 K N m b R):kQ (NX b m N) N=m:=by
 classical
 have e:=vq (c:=⟨p,n,m,N,[],[],[]⟩) (s:=⟨[],[],b,[],R⟩) h (λ_=>(1:Rat));have e1:((nz (λk=>decide (gt (NX b m N) k=1)) N:Nat):Rat)=((m:Nat):Rat):=by
  rw[FB,<-uH m];refine Eq.trans ?_ e;refine aQ _ λk hk=>?_;have:=HD (b:=b) (m:=m) (N:=N) hk;by_cases q:gt (NX b m N) k=1
  ·rw[if_pos (by simpa using q),if_pos (this.1 q)]
  ·rw[if_neg (by simpa using q),if_neg λg=>q (this.2 g)]
 rw[Mz];exact Rat.natCast_inj.1 e1
theorem u9.ord{K:(Nat->Rat)->Prop}{N m:Nat}{b b':List Nat}{B:List (List Rat)}(h:u9 K N m b' B){ρ:Nat->Nat}(h1:∀i,i<m->ρ i<m∧gt b' (ρ i)=gt b i)(h2:∀r,r<m->∃i,i<m∧ρ i=r)(hb:∀i k,i<m->k<m->gt b i=gt b k->i=k):u9 K N m b ((ati m).map λi=>gt B (ρ i)) where
 bl i hi:=by rw[<-(h1 i hi).2];exact h.bl _ (h1 i hi).1
 inj:=hb
 z0 r i hr hi:=by rw[bF _ hr,<-(h1 i hi).2];exact h.z0 _ _ (h1 r hr).1 (h1 i hi).1
 sat z:=by
  rw[h.sat z];constructor
  ·intro hz r hr;rw[bF _ hr,<-(h1 r hr).2];exact hz _ (h1 r hr).1
  ·intro hz r hr;obtain⟨i,hi,rfl⟩:=h2 r hr;have:=hz i hi;rw[bF _ hi,<-(h1 i hi).2]at this;exact this
theorem M6{p:aB}{n m N:Nat}(hm:p.rows.length=m)(hw:cT p)(h7:m<=7)(hN:n+m=N)(b:List Nat)(R:List (List Rat))(h:u9 (Kp p n m) N m b R)(hl:∀i,i<m->(gt R i).length=N):∀i,i<m->Wd 171875000 (gt R i):=by
 have hn:=Qi p n h;generalize af:NX b m N=w at hn;have w1:∀k,k<N->(gt w k=1↔∃i,i<m∧gt b i=k):=λk hk=>by rw[<-af];exact HD hk
 have hB:IsB (⟨p,n,m,N,[],[],[]⟩:Tc) (Kp p n m) w:=by
  refine⟨by rw[<-af];simp[NX],λk hk=>?_,hn,λz hz aj k hk=>?_⟩
  ·by_cases q:gt w k=1
   ·exact .inl q
   ·exact .inr (.inr (.inr ⟨by rw[<-af]at q ⊢;exact Tm hk q,rfl,rfl⟩))
  ·by_cases q:gt w k=1
   ·obtain⟨i,hi,rfl⟩:=(w1 k hk).1 q;rw[(h.sat z).1 hz i hi];refine gy N λx hx=>?_;by_cases q2:gt w x=1
    ·obtain⟨a,ha,rfl⟩:=(w1 x hx).1 q2;rw[h.z0 i a hi ha,Rat.zero_mul]
    ·rw[aj x hx q2,Rat.mul_zero]
   ·exact aj k hk q
 have tw:=N4 (p:=p) (n:=n) (m:=m) (N:=N) hm hw (oL w N);rcases O2 (Iz p n m N (oL w N)) (show m<=N by omega)with g | ⟨q,hq,g⟩
 ·have dd:=Ln (c:=(⟨p,n,m,N,[],[],[]⟩:Tc)) (w:=w) hN hn g;have ak:=E3 tw N (asN _);generalize cA (wx p n m N (oL w N)) N=s at *;have el:s.2.length=m:=by rw[g.f];simp
  rw[el]at ak;have ex:∀i,∃r,i<m->r<m∧gt (bL w N) r=gt b i:=λi=>by
   by_cases hi:i<m
   ·obtain⟨r,hr,e⟩:=TV (w:=w) (N:=N) (h.bl i hi) ((w1 _ (h.bl i hi)).2 ⟨i,hi,rfl⟩);exact⟨r,λ_=>⟨by omega,e⟩⟩
   ·exact⟨0,λq=>absurd q hi⟩
  obtain⟨ρ,hρ⟩:=Classical.axiomOfChoice ex;have d2:=dd.ord (b:=b) (ρ:=ρ) hρ (λr hr=>by
   have hr:r<m:=hr;obtain⟨e1,e2⟩:=GU (w:=w) (N:=N) (k:=r) (by show r<kQ w N;omega);obtain⟨i,hi,e⟩:=(w1 _ e1).1 e2;refine⟨i,hi,MN (w:=w) (N:=N) ?_ ?_ ?_⟩
   ·have:=(hρ i hi).1;omega
   ·omega
   ·rw[(hρ i hi).2,e]) h.inj
  intro i hi k hk;have hk:k<N:=by rw[<-hl i hi];exact hk
  have hr:=(hρ i hi).1;rw[h.uniq d2 hi hk,bF _ hi,bF _ hr];obtain⟨x,hx,rfl⟩:=Nk (w:=w) hk;rw[GJ hx];split
  ·exact Proofs.cL (by omega)
  ·exact fh (ay (ak.1.q _ x hr hx) (Iu (asN _) h7))
 ·exact absurd hB (PG (c:=(⟨p,n,m,N,[],[],[]⟩:Tc)) hN hn hq g)
end Go.Sx
set_option maxRecDepth 10000
namespace Go.Proofs
open Go.Sv Go Go.Tb Go.Pl Go.Ut Go.Mx Go.Li Go.Dt Go.Sx
theorem J9(p:aB)(n m N:Nat)(hn:p.ab.length=n)(hm:p.rows.length=m)(hN:n+m=N)(ad:N<=14)(h7:m<=7)(hw:cT p)(an:∀i,i<m->(gt p.rows i).aC.length<=1000000)(hb:∀i,i<m->fJ n (-1) (gt p.rows i).aC=false) :
  kv Tryz.prog 77 [.dc (bN p) 0] [] [] (λT y=>T=tT (bV p n m N) (Nf p n m N) []∧y=.ptr 0 0 0):=by
 refine iQ Tryz.func77 rfl (by simp) (λC hC=>?_);have hC:C.fx=[]:=by simpa using hC
 show aa _ _ aE _ (gK Tryz.prog [.tmp 2] _ _);refine Ty p n m N hn hm hN ad hC (λc st h=>h) ?_;refine TD p n m N hn hN ad hC (λc st h=>h) ?_;rw[acT p n m N hn];refine Sz p n m N hn hm hN ad (λi hi t ht=>?_) an hC (λc st h=>h) ?_
 ·obtain⟨k,e,hk⟩:=Bu (hb i hi) (by omega) t ht;exact⟨k,e,by omega⟩
 refine aa.le ((Tx p n m N hn hm hN).trans ((TZ p n m N hn hm hN).trans ((SM p n m N hn hm hN).trans (SR p n m N hC)))) ?_;have hR:(rM p n m N).R.length=m:=by simp[rM]
 have tb:=Lj (p:=p) hN;have fw:=Rf (N:=N) hm hw hb;have rk:=FF (bV p n m N) (rM p n m N) (CN hn hm hN ad h7) tb (W:=2200) (V:=2200) (by omega) (λi j hi hj=>fw i hi j (by have:=tb.Rr i hi;show j<(gt (rM p n m N).R i).length;rw[this];exact hj)) (λi k hi hk hz=>by
  replace hi:i<m:=hi;replace hk:k<N:=hk;have ao:k<n:=by apply Classical.byContradiction;intro hc;apply hz;show gt (gt (gN p N m) i) k=0;rw[tM hi,wJ (hb i hi) hk,zy (hb i hi) (by omega)]
  rw[sV tb hk (λq hq e=>by replace hq:q<m:=hq;have:gt (jD n m) q=k:=e;rw[jE hq]at this;omega) i (Nat.le_of_lt hi)]
  show qw 2200 (gt (dH N n (so p) 0) k);rw[jk hk,if_pos ao];unfold so;split
  ·exact(hw.co k (by omega)).2.1
  ·split
   ·exact(hw.co k (by omega)).2.2
   ·exact Proofs.cL (by omega)) (by show 1+N*_<=_;omega)
 simp only[aE,Tryz.f77,ate,ai,ah];refine aa.go ?_;have eT:tT (bV p n m N) (rM p n m N) []=tH (bV p n m N) (rM p n m N)++ey (rM p n m N).R:=by simp[tT]
 rw[eT];generalize hc:bV p n m N=c at *;generalize hs:rM p n m N=s at *;have ae:c.m=m:=by rw[<-hc];rfl
 simp;refine Bn (s:=s) rk (by rw[hR,ae]) (by simp) (by simp) ?_;rintro T1 y ⟨rfl,rfl⟩;refine⟨_,rfl,by rw[ae];exact hR,by simp,?_⟩;simp only[tH,tS,as8,at3];simp;refine⟨_,_,⟨rfl,rfl⟩,rfl,?_,.inl ?_⟩
 ·subst hc hs;show fI _ (tT (bV p n m N) (Nf p n m N) []);rw[tT,List.append_nil];exact aq _
 ·subst hc hs;simp[tT,tH,Nf,bV]
end Go.Proofs
namespace Go.Sx
open Go Go.Sv Go.Pl Go.Proofs Go.Tb Go.Ut Go.Mx Go.Li Go.Dt
end Go.Sx
namespace Go.Sx
open Go Go.Sv Go.Pl Go.Proofs Go.Tb Go.Ut Go.Mx Go.Li Go.Dt
end Go.Sx
namespace Go.Sx
open Go Go.Sv Go.Pl Go.Proofs Go.Tb Go.Ut Go.Mx Go.Li Go.Dt
theorem sR{n:Nat}:∀{ts:List Term} {c:Int},fJ n c ts=false -> -1<=c->(ts.length:Int)<=n - 1 - c∨ts=[]
 | [],_,_,_=>.inr rfl
 | t::ts,c,h,hc=>by
  simp only[fJ,Bool.or_eq_false_iff,decide_eq_false_iff_not]at h;left;rcases sR h.2 (by omega)with q | q
  ·simp only[asw];omega
  ·rw[q];simp only[asw,List.length_nil];omega
theorem mX{p:aB}(h:bh p=0){i:Nat}(hi:i<p.rows.length):fJ p.ab.length (-1) (gt p.rows i).aC=false:=by
 cases hb:fJ p.ab.length (-1) (gt p.rows i).aC with
 | false=>rfl
 | true =>
  have:=wM hi hb;unfold bh at h;rw[this]at h;split at h
  ·omega
  ·split at h
   ·omega
   ·simp at h
end Go.Sx
namespace Go.Proofs
open Go.Sv Go Go.Tb Go.Pl Go.Ut Go.Mx Go.Li Go.Dt Go.Sx
end Go.Proofs
set_option maxRecDepth 10000
namespace Go.Sx
open Go Go.Sv Go.Pl Go.Proofs Go.Tb Go.Ut Go.Mx Go.Li Go.Dt
theorem TM(p:aB)(k:Nat):zN p k≠1:=by
 unfold zN;split
 ·decide
 ·split<;>decide
theorem IU{p:aB}{n m N k:Nat}(hk:k<N):gt (Nf p n m N).wh k=if k<n then zN p k else 1:=by show gt (dH N N (wF p n) 0) k=_;rw[jk hk,if_pos hk];rfl
theorem Ul{p:aB}{n m N:Nat}(hn:p.ab.length=n)(hm:p.rows.length=m)(hN:n+m=N)(hw:cT p)(hb:∀i,i<m->fJ n (-1) (gt p.rows i).aC=false):fo (bV p n m N) (Kp p n m) (Nf p n m N):=by
 have hs:=R4 hN hm hw hb [];have tb:=Lj (p:=p) hN;have dd:=Ng (N:=N) hN hb;have nb:∀k,k<n->∀i,i<m->gt (jD n m) i≠k:=λk hk i hi e=>by rw[jE hi]at e;omega
 have xo:∀k,k<n->gt (Nf p n m N).x k=so p k:=λk hk=>by show gt (uu (rM p n m N) N m) k=_;have:=sV (c:=bV p n m N) tb (k:=k) (by show k<N;omega) (nb k hk) m (asN _);refine this.trans ?_;show gt (dH N n (so p) 0) k=_;rw[jk (by omega),if_pos hk]
 refine⟨hs.t,dd,hs.r,λk hk=>?_,λk hk=>?_,λk hk ag=>?_,λr hr=>?_⟩
 ·replace hk:k<N:=hk;rw[IU hk];constructor
  ·intro h;by_cases q:k<n
   ·rw[if_pos q]at h;exact absurd h (TM p k)
   ·exact⟨k - n,by show k - n<m;omega,by show gt (jD n m) (k - n)=k;rw[jE (by omega)];omega⟩
  ·rintro⟨i,hi,e⟩;replace hi:i<m:=hi;have e:gt (jD n m) i=k:=e;rw[jE hi]at e;rw[if_neg (by omega)]
 ·replace hk:k<N:=hk;unfold fit;rw[IU hk];by_cases q:k<n
  ·rw[if_pos q];have gl:gt (bV p n m N).low k=(gt p.ab k).low:=by show gt (gO p m) k=_;rw[qt hn hm (by omega),if_pos q]
   have gh:gt (bV p n m N).high k=(gt p.ab k).high:=by show gt (dF p m) k=_;rw[mP hn hm (by omega),if_pos q]
   rw[gl,gh];unfold zN;by_cases h1:(gt p.ab k).low.has=true
   ·rw[if_pos h1];exact .inr (.inl ⟨rfl,h1⟩)
   ·rw[if_neg h1];by_cases h2:(gt p.ab k).high.has=true
    ·rw[if_pos h2];exact .inr (.inr (.inl ⟨rfl,h2⟩))
    ·rw[if_neg h2];exact .inr (.inr (.inr ⟨rfl,by simpa using h1,by simpa using h2⟩))
  ·rw[if_neg q];exact .inl rfl
 ·replace hk:k<N:=hk;rw[IU hk]at ag;by_cases q:k<n
  ·rw[xo k q];unfold xw;rw[IU hk,if_pos q];have gl:gt (bV p n m N).low k=(gt p.ab k).low:=by show gt (gO p m) k=_;rw[qt hn hm (by omega),if_pos q]
   have gh:gt (bV p n m N).high k=(gt p.ab k).high:=by show gt (dF p m) k=_;rw[mP hn hm (by omega),if_pos q]
   rw[gl,gh];unfold zN so;by_cases h1:(gt p.ab k).low.has=true
   ·simp only[if_pos h1,if_true]
   ·by_cases h2:(gt p.ab k).high.has=true
    ·simp only[if_neg h1,if_pos h2];rw[if_neg (by decide),if_pos trivial]
    ·simp only[if_neg h1,if_neg h2];rw[if_neg (by decide),if_neg (by decide)]
  ·rw[if_neg q]at ag;exact absurd rfl ag
 ·replace hr:r<m:=hr;have e1:=C7 (c:=bV p n m N) tb dd m (asN _) r hr;have e2:=MK (c:=bV p n m N) tb dd (r:=r) (i:=m) hr (asN _);exact e1.trans e2.symm
end Go.Sx
namespace Go.Sv
open Go
section
variable {σ τ:Nat->Nat} {n:Nat}
mutual
theorem MU(h:∀i,i<n->σ i=τ i):∀x:SV,x.lt n=true->fU σ x=fU τ x
 | .val _,_=>by simp
 | .ptr k _ _,hx=>by simp only[SV.lt,decide_eq_true_eq]at hx;simp[h k hx]
 | .view k _ _,hx=>by simp only[SV.lt,decide_eq_true_eq]at hx;simp[h k hx]
 | .ro _,_=>by simp
 | .dc _ _,_=>by simp
 | .agg l,hx=>by simp only[SV.lt]at hx;rw[B5,B5,qS h l hx]
 | .bP l,hx=>by simp only[SV.lt]at hx;rw[Br,Br,qS h l hx]
 | .iT _ x,hx=>by simp only[SV.lt]at hx;rw[CJ,CJ,MU h x hx]
 | .iJ _ _,_=>by simp
 | .any,_=>by simp
 | .jw _ l r,hx=>by simp only[SV.lt,Bool.and_eq_true]at hx;rw[Bs,Bs,qS h l hx.1,qS h r hx.2]
 | .mp k,hx=>by simp only[SV.lt,decide_eq_true_eq]at hx;simp[h k hx]
theorem qS(h:∀i,i<n->σ i=τ i):∀l:List SV,SV.kZ n l=true->dE σ l=dE τ l
 | [],_=>by simp
 | x::l,hx=>by simp only[SV.kZ,Bool.and_eq_true]at hx;rw[mU,mU,MU h x hx.1,qS h l hx.2]
end
theorem EE{n:Nat}:∀{T:aD} {k:Nat} {e:cz},whole n T->T[k]?=some (some e)->SV.kZ n e.es=true
 | none::_,_,_,h,_=>h.elim
 | some x::T,0,e,h,hk=>by simp only[as9,Option.some.injEq]at hk;rw[<-hk];exact h.1
 | some x::T,k+1,e,h,hk=>by rw[avP]at hk;exact EE h.2 hk
end
end Go.Sv
namespace Go.Sx
open Go Go.Sv Go.Pl Go.Proofs Go.Tb Go.Ut Go.Mx Go.Li Go.Dt
theorem Gi{P:Program}{C:Ctx}{f:FuncId}{args:List SV}{c:Tc}{s:Tb}{e0:Option cz}{W:Option (List Nat)}{K:aD->List Nat->SV->Prop}(h:kv P f args [] [] (λT y=>T=tT c s []∧y=.ptr 0 0 0))
  (ha:SV.bJ args=true) (hK:K (e0::(tT c s []).map (λe=>e.map (fv λi=>1+i))) [] (.ptr 1 0 0)):dN P C f args [e0] W K:=by
 refine mS h [] List.nodup_nil trivial (hI _ _ ha).symm (λk hk=>by cases hk) (λks _=>⟨rfl,λk hk=>by cases hk⟩) ?_;rintro T1 y ⟨rfl,rfl⟩;exact hK
theorem My{C:Ctx}(hC:C.fx=[]){c:Tc}{s:Tb}(hR:s.R.length=c.m){N0:Nat}{sz:Nat}{es:List SV}(he:SV.bJ es=true){fr fr':List (Nat × SV)}(hf:∀t x,Go.Sv.get fr' t=some x->Go.Sv.get fr t=some (fU (λk=>if k<c.m+6 then k+1 else if k=c.m+6 then 0 else k) x)) :
  Le C ⟨N0,fr,some ⟨sz,es,false⟩::(tT c s []).map (λe=>e.map (fv λi=>1+i))⟩ ⟨N0,fr',tT c s [some ⟨sz,es,false⟩]⟩:=by
 have l1:(tT c s []).length=c.m+6:=by rw[jo hR];rfl
 have l2:(tT c s [some ⟨sz,es,false⟩]).length=c.m+7:=by rw[jo hR];rfl
 have ap:tT c s [some ⟨sz,es,false⟩]=tT c s []++[some ⟨sz,es,false⟩]:=by simp[tT]
 refine Le.perm hC (λk=>if k<c.m+6 then k+1 else if k=c.m+6 then 0 else k) rfl (λa b ha hb e=>?_) (λk hk=>?_) (λk e hk=>?_) hf
 ·replace ha:a<(tT c s [some ⟨sz,es,false⟩]).length:=ha;replace hb:b<(tT c s [some ⟨sz,es,false⟩]).length:=hb;rw[l2]at ha hb;replace e:(if a<c.m+6 then a+1 else if a=c.m+6 then 0 else a)=if b<c.m+6 then b+1 else if b=c.m+6 then 0 else b:=e;split at e<;>split at e<;>(try split at e)<;>(try split at e)<;>omega
 ·replace hk:(tT c s [some ⟨sz,es,false⟩]).length<=k:=hk;rw[l2]at hk;show(some (⟨sz,es,false⟩:cz)::(tT c s []).map (λe=>e.map (fv λi=>1+i))).length<=if k<c.m+6 then k+1 else if k=c.m+6 then 0 else k;rw[asw,List.length_map,l1,if_neg (by omega),if_neg (by omega)];exact hk
 ·replace hk:(tT c s [some ⟨sz,es,false⟩])[k]?=some (some e):=hk;show(some (⟨sz,es,false⟩:cz)::(tT c s []).map (λe=>e.map (fv λi=>1+i)))[if k<c.m+6 then k+1 else if k=c.m+6 then 0 else k]?=_;by_cases q:k<c.m+6
  ·rw[if_pos q,avP,List.getElem?_map];rw[ap,List.getElem?_append_left (by rw[l1];exact q)]at hk;rw[hk];have lt:=EE (xU s (n:=c.m+6) rfl) hk;simp only[Option.map_some];congr 2;unfold fv;rw[qS (n:=c.m+6) (σ:=λi=>1+i) (τ:=(λk=>if k<c.m+6 then k+1 else if k=c.m+6 then 0 else k)) (λi hi=>by show 1+i=if i<c.m+6 then i+1 else _;rw[if_pos hi];omega) _ lt]
  ·have av:k<c.m+7:=by
    have:=(List.getElem?_eq_some_iff.1 hk).1;rw[l2]at this;exact this
   obtain rfl:k=c.m+6:=by omega
   rw[if_neg q,if_pos rfl,as9];rw[ap,List.getElem?_append_right (by rw[l1];omega),l1,Nat.sub_self,as9]at hk;simp only[Option.some.injEq]at hk;subst hk;unfold fv;rw[hI _ _ he]
end Go.Sx
namespace Go.Proofs
open Go.Sv Go Go.Tb Go.Pl Go.Ut Go.Mx Go.Li Go.Dt Go.Sx
def ajM(c:Tc)(K:(Nat->Rat)->Prop)(y:SV):Prop:=∃s cl,y=.bP [mn cl,.ro (s.wh.map iv),.val .nilIface]∧rH c K s cl
theorem xX(p:aB)(n m N:Nat)(hn:p.ab.length=n)(hm:p.rows.length=m)(hN:n+m=N)(n7:n<=7)(h7:m<=7)(fw:As p)(hw:cT p)(hv:bh p=0) :
  rC Tryz.prog 29 [.dc (bN p) 0] (ajM (bV p n m N) (Kp p n m)):=by
 have qv:=Au p fw;rw[hv,Nh]at qv;have hb:∀i,i<m->fJ n (-1) (gt p.rows i).aC=false:=λi hi=>by rw[<-hn];exact mX hv (by omega)
 have qf:=J9 p n m N hn hm hN (by omega) h7 hw (λi hi=>by
  rcases sR (hb i hi) (by omega)with q | q
  ·omega
  ·rw[q];simp) hb
 have ar:=Ul hn hm hN hw hb;have ae:(bV p n m N).m=m:=rfl;have au:=Gp (bV p n m N) (Kp p n m) (CN hn hm hN (by omega) h7) (Q6 hn hm hN hw) (M6 hm hw h7 hN) (λk hk=>by
  have hk:k<N:=by have:=(CN hn hm hN (by omega) h7).co;rw[this]at hk;exact hk
  rw[pW hk];have:qw 2200 (uw p n k):=by
   unfold uw;split
   ·exact(hw.co k (by omega)).1
   ·exact Proofs.cL (by omega)
  split
  ·exact fh this
  ·exact this) hN n7 fw hw hv hn (Nf p n m N) ar
 have al:(Nf p n m N).R.length=(bV p n m N).m:=by simp[Nf,rM,bV]
 have ac:(bV p n m N).m<=7∧(bV p n m N).N<=14:=⟨h7,by show N<=14;omega⟩;refine jT Tryz.func29 rfl (by simp) (λC hC=>?_);refine aa.wk ?_;have cp:(bV p n m N).p=p:=rfl;clear ae;generalize bV p n m N=c at *;generalize Nf p n m N=s0 at *;have aw:c.m<=7∧c.N<=14:=ac;refine aa.cutAt 3 (λst=>st=⟨23,[(2,.ptr 0 0 0),(6,.ptr 1 0 0)],some ⟨8,[db 0],false⟩::(tT c s0 []).map (λe=>e.map (fv λi=>1+i))⟩) ?_ ?_
 ·simp only[Tryz.f29,aN,aM];simp[mh];refine asl qv ?_;simp;refine Gi qf (by simp) ?_;generalize (tT c s0 []).map (λe=>e.map (fv λi=>1+i))=T1;simp;exact⟨rfl,by simp[bU,Go.Sv.get],aq _,.inl rfl⟩
 ·rintro st rfl;have l1:=My (C:=C) hC (c:=c) (s:=s0) al (N0:=23) (sz:=8) (es:=[db 0]) (by simp[db]) (fr:=[(2,.ptr 0 0 0),(6,.ptr 1 0 0)]) (fr':=[(2,.ptr (c.m+6) 0 0),(6,.ptr 0 0 0)]) (λt x hg=>by
   simp only[Go.Sv.get]at hg ⊢;split at hg
   ·rename_i e;rw[if_pos e];cases hg;simp
   ·rename_i e;rw[if_neg e];split at hg
    ·rename_i e2;rw[if_pos e2];cases hg;simp
    ·simp at hg)
  refine aa.le l1 ?_;simp only[Tryz.f29,ai,ah];simp only[tT,tH,tS,db,as8,at3];refine aa.go ?_;simp;refine dS (tl:=[_]) au al (by simp) (by simp) ?_;rintro T1 y ⟨s,cl,rfl,rfl,ac⟩;have hR:=ac.1;refine⟨s,rfl,hR,by simp,?_⟩;simp only[tT,tH,tS,as8,at3];simp[hR,ep hR,eo hR];refine aa.asj (.qs [0,1,2,3]<|.m 4 [] (.l 5 [c.m+6]<|.qs [6,7]<|.nil) 5 [c.m+6] (.l 4 []<|.qs [6,7]<|.nil)) ?_;simp[cE hR,cP hR,ep hR,u5,u7];have am:=ac.2.1.t.w;have tk:List.take c.N (s.wh.map iv)=s.wh.map iv:=List.take_of_length_le (by simp[am]);have sb:nI 1 (s.wh.map iv) (AB c.N c.m)=AB c.N c.m:=by unfold AB;rw[Hq];refine List.map_congr_left λi hi=>?_;simp only[Ru,kj];rw[if_neg (by omega)]
  have l2:Le C ⟨23,[(2,.ptr (c.m+6) 0 0),(3,.view 1 0 c.N),(4,.val .nilIface)],tT c s [some ⟨8,[mn cl],false⟩]⟩ ⟨23,[(2,.ptr (c.m+6) 0 0),(3,.ro (s.wh.map iv)),(4,.val .nilIface)],wg 1 (s.wh.map iv) (aX (tT c s [some ⟨8,[mn cl],false⟩]) 1 (some ⟨1,s.wh.map iv,true⟩))⟩:=by refine(Le.CE 1 (e:=⟨1,s.wh.map iv,false⟩) rfl (by simp)).trans ?_;rw[Hs (e:=⟨1,s.wh.map iv,false⟩) rfl];exact Le.fm ⟨rfl,by simp[bU,Go.Sv.get,am,tk],aq _,.inl rfl⟩
  refine⟨_,(Le.fm (r9 s (tl:=[some ⟨8,[mn cl],false⟩,some ⟨8,[mn cl],false⟩]) (tl':=[some ⟨8,[mn cl],false⟩]) (fr':=[(2,.ptr (c.m+6) 0 0),(3,.view 1 0 c.N),(4,.val .nilIface)]) hR (by simp[hC]) (by simp[bU,Go.Sv.get]) (by simp[fI]) (by simp[gz,SV.lt]) (by simp[ee]))).trans l2,?_⟩;simp only[aX,tT,tH,tS,as8,at3];simp[kq,my,sb,tk,cE hR];exact⟨.bP [mn cl,.ro (s.wh.map iv),.val .nilIface],by simp,s,cl,rfl,ac⟩
end Go.Proofs

