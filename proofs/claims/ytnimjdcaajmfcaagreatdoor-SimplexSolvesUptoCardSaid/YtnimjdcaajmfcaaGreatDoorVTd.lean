/- A text of the prover's own. -/
import Derived.Test.YtnimjdcaajmfcaaGreatDoorVSf
import Derived.Test.YtnimjdcaajmfcaaGreatDoorVKi
open List renaming range->ayq,length_append->awU,mem_range->aBF,getD_eq_getElem?_getD->aBn,mem_filter->ayF,getElem_of_mem->aBR
open Nat renaming lt_trichotomy->aBT,le_refl->axq,pow_succ->ayX
open Rat renaming zero_mul->aBG,mul_zero->aBH,mul_nonneg->aBU,le_total->aBV
open Classical renaming byContradiction->aBW
namespace Go.Sx
open Go Go.Sv Go.Pl Go.Proofs Go.Tb Go.Ut Go.Mx Go.Li Go.Dt
def bL(w:List Int)(N:Nat):List Nat:=(ayq N).filter λk=>decide (gt w k=1)
def oL(w:List Int)(N:Nat):List Nat:=bL w N++(ayq N).filter λk=>!decide (gt w k=1)
theorem Ld(w:List Int)(N:Nat):bL w (N+1)=bL w N++if gt w N=1 then[N] else[]:=by unfold bL;rw[List.range_succ,List.filter_append];congr 1;by_cases h:gt w N=1<;>simp[h]
theorem ja(w:List Int):∀N,(bL w N).length=eG w N
 | 0=>rfl
 | N+1=>by rw[Ld,awU,ja w N];simp only[eG];split<;>rfl
theorem yM(w:List Int)(N:Nat):(oL w N).Perm (ayq N):=List.filter_append_perm _ _
theorem nN(w:List Int)(N:Nat):(oL w N).length=N:=by rw[(yM w N).length_eq,List.length_range]
theorem Ka{l:List Nat}{i:Nat}(h:i<l.length):gt l i=l[i]:=by simp[gt,h]
theorem Ve{l:List Nat}(h:l.Nodup){i j:Nat}(hi:i<l.length)(hj:j<l.length)(e:gt l i=gt l j):i=j:=by
 rw[Ka hi,Ka hj]at e;have hp:=List.pairwise_iff_getElem.1 h;rcases aBT i j with g | g | g
 ·exact absurd e (hp i j hi hj g)
 ·exact g
 ·exact absurd e.symm (hp j i hj hi g)
theorem m6{w:List Int}{N k:Nat}(h:k<N):gt (oL w N) k<N:=by have:=(yM w N).mem_iff.1 (iW (show k<(oL w N).length by rw[nN];exact h));exact aBF.1 this
theorem OG(w:List Int)(N:Nat):(oL w N).Nodup:=(yM w N).nodup_iff.2 List.nodup_range
theorem ug{w:List Int}{N i j:Nat}(hi:i<N)(hj:j<N)(e:gt (oL w N) i=gt (oL w N) j):i=j:=Ve (OG w N) (by rw[nN];exact hi) (by rw[nN];exact hj) e
theorem Ag{w:List Int}{N k:Nat}(h:k<eG w N):gt (oL w N) k=gt (bL w N) k:=by unfold oL;simp only[gt,aBn];rw[List.getElem?_append_left (by rw[ja];exact h)]
theorem mf{w:List Int}{N k:Nat}(h:k<eG w N):gt (bL w N) k<N∧gt w (gt (bL w N) k)=1:=by have hm:=iW (show k<(bL w N).length by rw[ja];exact h);have:=ayF.1 (show gt (bL w N) k∈(ayq N).filter (λk=>decide (gt w k=1)) from hm);exact⟨aBF.1 this.1,by simpa using this.2⟩
theorem Qt{w:List Int}{N k:Nat}(h:eG w N<=k)(hk:k<N):gt w (gt (oL w N) k)≠1:=by
 have e:gt (oL w N) k=gt ((ayq N).filter λk=>!decide (gt w k=1)) (k - eG w N):=by unfold oL;simp only[gt,aBn];rw[List.getElem?_append_right (by rw[ja];exact h),ja]
 have hl:=nN w N;unfold oL at hl;rw[awU,ja]at hl;have:=iW (show k - eG w N<((ayq N).filter λk=>!decide (gt w k=1)).length by omega);rw[ayF]at this;rw[e];simpa using this.2
theorem xf{w:List Int}{N k:Nat}(hk:k<N)(h:gt w k=1):∃r,r<eG w N∧gt (bL w N) r=k:=by
 have:k∈bL w N:=by unfold bL;rw[ayF];exact⟨aBF.2 hk,by simpa using h⟩
 obtain⟨r,hr,e⟩:=aBR this;exact⟨r,by rw[<-ja];exact hr,by rw[Ka hr];exact e⟩
theorem zJ{w:List Int}{N i j:Nat}(hi:i<eG w N)(hj:j<eG w N)(e:gt (bL w N) i=gt (bL w N) j):i=j:=by have:=tL w N;exact ug (w:=w) (N:=N) (by omega) (by omega) (by rw[Ag hi,Ag hj,e])
def lW(p:aB)(n i k:Nat):Rat:=if k<n then cY (gt p.rows i).aI k else if k=n+i then -1 else 0
def iq(p:aB)(n m N:Nat)(ord:List Nat):List (List Rat):=(ayq m).map λi=>(ayq N).map λk=>lW p n i (gt ord k)
theorem rf(p:aB)(n m N:Nat)(ord:List Nat):(iq p n m N ord).length=m:=by simp[iq]
theorem Lc{p:aB}{n m N:Nat}{ord:List Nat}{i k:Nat}(hi:i<m)(hk:k<N):gt (gt (iq p n m N ord) i) k=lW p n i (gt ord k):=by unfold iq;rw[aV _ hi,aV _ hk]
theorem EG(p:aB)(n m N:Nat)(ord:List Nat):Sh m N (iq p n m N ord) where
 l:=rf ..
 r i hi:=by unfold iq;rw[aV _ hi];simp
def Kp(p:aB)(n m:Nat)(z:Nat->Rat):Prop:=∀i,i<m->z (n+i)=aG (λk=>cY (gt p.rows i).aI k*z k) n
theorem O6{p:aB}{n m i:Nat}(hi:i<m)(z:Nat->Rat):aG (λk=>lW p n i k*z k) (n+m)=aG (λk=>cY (gt p.rows i).aI k*z k) n - z (n+i):=by
 have e:aG (λk=>lW p n i k*z k) (n+m)=aG (λk=>(if k<n then cY (gt p.rows i).aI k*z k else 0)+(if k=n+i then -1 else 0)*z k) (n+m):=aO _ λk hk=>by
  unfold lW;by_cases h1:k<n
  ·rw[if_pos h1,if_pos h1,if_neg (by omega)];grind
  ·rw[if_neg h1,if_neg h1];grind
 rw[e,jY,SZ _ (by omega),cA (f:=λk=>(if k=n+i then -1 else 0)*z k) (p:=n+i) (n+m) (by omega) (λk _ hk=>by simp only[if_neg hk];rw[aBG])];simp only[if_true];grind
theorem Hq{p:aB}{n m N:Nat}(hN:n+m=N){w:List Int}(y z:Nat->Rat)(h:∀k,k<N->y k=z (gt (oL w N) k)):ZL N (iq p n m N (oL w N)) y↔Kp p n m z:=by
 subst hN;have e:∀i,i<m->aG (λk=>gt (gt (iq p n m (n+m) (oL w (n+m))) i) k*y k) (n+m)=aG (λk=>cY (gt p.rows i).aI k*z k) n - z (n+i):=λi hi=>by rw[<-O6 hi z,<-sM (f:=λk=>lW p n i k*z k) (ord:=gt (oL w (n+m))) (λk hk=>m6 hk) (λa b ha hb e=>ug ha hb e)];exact aO _ λk hk=>by rw[Lc hi hk,h k hk]
 constructor
 ·intro hz i hi;have:=hz i (by rw[rf];exact hi);rw[e i hi]at this;grind
 ·intro hz i hi;rw[rf]at hi;rw[e i hi,hz i hi];grind
def atO(ord:List Nat)(N:Nat)(y:Nat->Rat)(x:Nat):Rat:=aG (λk=>if gt ord k=x then y k else 0) N
theorem Dv{w:List Int}{N:Nat}{y:Nat->Rat}{k:Nat}(hk:k<N):atO (oL w N) N y (gt (oL w N) k)=y k:=by unfold atO;rw[cA (p:=k) N hk (λq hq ak=>if_neg λe=>ak (ug hq hk e)),if_pos rfl]
theorem wB{w:List Int}{N x:Nat}(hx:x<N):∃k,k<N∧gt (oL w N) k=x:=by have:x∈oL w N:=(yM w N).mem_iff.2 (aBF.2 hx);obtain⟨k,hk,e⟩:=aBR this;exact⟨k,by rw[<-nN w N];exact hk,by rw[Ka hk];exact e⟩
theorem JK{c:Tc}{p:aB}{w:List Int}(hN:c.n+c.m=c.N)(hn:eG w c.N=c.m){f:List Nat}{b:Nat}(hb:b<c.m)(h:z7 c.N (iq p c.n c.m c.N (oL w c.N)) f b):¬HQ c (Kp p c.n c.m) w:=λhB=>by
 obtain⟨_,y,hy,al,am⟩:=h;have hz:=(Hq (p:=p) hN y (atO (oL w c.N) c.N y) (λk hk=>(Dv hk).symm)).1 hy;have:=hB.k _ hz (λk hk hw=>by obtain⟨q,hq,rfl⟩:=wB (w:=w) hk;rw[Dv hq];refine am q ?_;apply aBW;intro hc;exact hw (by rw[Ag (by omega)];exact(mf (by omega)).2)) (gt (oL w c.N) b) (m6 (by omega))
 rw[Dv (by omega),al]at this;exact absurd this (by decide)
def qt(w:List Int)(N m:Nat)(R:List (List Rat))(i:Nat):List Rat:=(ayq N).map λx=>atO (oL w N) N (λk=>if k<m then 0 else -(gt (gt R i) k)) x
theorem qZ{w:List Int}{N m:Nat}{R:List (List Rat)}{i k:Nat}(hk:k<N):gt (qt w N m R i) (gt (oL w N) k)=if k<m then 0 else -(gt (gt R i) k):=by unfold qt;rw[aV _ (m6 hk),Dv hk]
theorem Aq{c:Tc}{p:aB}{w:List Int}(hN:c.n+c.m=c.N)(hn:eG w c.N=c.m){s:List (List Rat) × List Nat}(h:IL c.m c.N (iq p c.n c.m c.N (oL w c.N)) s c.m) :
  xH (Kp p c.n c.m) c.N c.m (bL w c.N) ((ayq c.m).map (qt w c.N c.m s.1)) where
 bl i hi:=(mf (by omega)).1
 inj i k hi hk e:=zJ (by omega) (by omega) e
 z0 r i hr hi:=by rw[aV _ hr,<-Ag (by omega),qZ (by omega),if_pos hi]
 sat z:=by
  rw[<-Hq (p:=p) hN (λk=>z (gt (oL w c.N) k)) z (λk hk=>rfl),<-h.k];have e:∀r,r<c.m->aG (λk=>gt (gt s.1 r) k*z (gt (oL w c.N) k)) c.N=z (gt (bL w c.N) r) - aG (λk=>gt (qt w c.N c.m s.1 r) k*z k) c.N:=λr hr=>by
   rw[<-sM (f:=λk=>gt (qt w c.N c.m s.1 r) k*z k) (ord:=gt (oL w c.N)) (λk hk=>m6 hk) (λa b ha hb e=>ug ha hb e)];rw[show z (gt (bL w c.N) r)=aG (λk=>(if k=r then 1 else 0)*z (gt (oL w c.N) k)) c.N by rw[cA (p:=r) c.N (by omega) (λk _ hk=>by simp only[if_neg hk];rw[aBG])];simp only[if_true];rw[Rat.one_mul,Ag (by omega)]]
   rw[<-kN];refine aO _ λk hk=>?_;rw[qZ hk];by_cases q:k<c.m
   ·rw[h.u k q r hr,if_pos q];by_cases e:k=r
    ·rw[if_pos e,if_pos e.symm];grind
    ·rw[if_neg e,if_neg (λe'=>e e'.symm)];grind
   ·rw[if_neg q,if_neg (by omega)];grind
  have hl:=h.sh.l;constructor
  ·intro hz r hr;have:=hz r (by omega);rw[e r hr]at this;rw[aV _ hr];grind
  ·intro hz r hr;have:=hz r (by omega);rw[aV _ (by omega)]at this;show aG (λk=>gt (gt s.1 r) k*z (gt (oL w c.N) k)) c.N=0;rw[e r (by omega),this];grind
theorem PU{c:Tc}{p:aB}{w:List Int}(hN:c.n+c.m=c.N)(hl:w.length=c.N)(hf:∀k,k<c.N->Sx.fit c w k)(hn:eG w c.N=c.m){s:List (List Rat) × List Nat}(h:IL c.m c.N (iq p c.n c.m c.N (oL w c.N)) s c.m):HQ c (Kp p c.n c.m) w:=by
 have d:=Aq hN hn h;refine⟨hl,hf,hn,λz hz h0 k hk=>?_⟩;by_cases hw:gt w k=1
 ·obtain⟨r,hr,rfl⟩:=xf hk hw;rw[(d.sat z).1 hz r (by omega)];refine fi _ λq hq=>?_;by_cases ac:gt w q=1
  ·obtain⟨i,hi,rfl⟩:=xf hq ac;rw[d.z0 r i (by omega) (by omega),aBG]
  ·rw[h0 q hq ac,aBH]
 ·exact h0 k hk hw
theorem xH.uniq{K:(Nat->Rat)->Prop}{N m:Nat}{b:List Nat}{R1 R2:List (List Rat)}(h1:xH K N m b R1)(h2:xH K N m b R2){i k:Nat}(hi:i<m)(hk:k<N):gt (gt R1 i) k=gt (gt R2 i) k:=by
 by_cases hb:∃q,q<m∧gt b q=k
 ·obtain⟨q,hq,rfl⟩:=hb;rw[h1.z0 i q hi hq,h2.z0 i q hi hq]
 ·let z:Nat->Rat:=λx=>if x=k then 1 else aG (λq=>if gt b q=x then gt (gt R1 q) k else 0) m
  have zk:z k=1:=if_pos rfl;have zb:∀q,q<m->z (gt b q)=gt (gt R1 q) k:=λq hq=>by show(if gt b q=k then(1:Rat) else _)=_;rw[if_neg (λe=>hb ⟨q,hq,e⟩),cA (p:=q) m hq (λa ha an=>if_neg λe=>an (h1.inj a q ha hq e)),if_pos rfl]
  have zn:∀x,x≠k->(∀q,q<m->gt b q≠x)->z x=0:=λx hx hq=>by show(if x=k then(1:Rat) else _)=_;rw[if_neg hx];exact fi m λq ao=>if_neg (hq q ao)
  have one:∀{R:List (List Rat)},xH K N m b R->∀r,r<m->aG (λx=>gt (gt R r) x*z x) N=gt (gt R r) k:=λ{R} h r hr=>by
   rw[cA (p:=k) N hk (λx hx ap=>?_),zk,Rat.mul_one];by_cases ai:∃q,q<m∧gt b q=x
   ·obtain⟨q,hq,rfl⟩:=ai;rw[h.z0 r q hr hq,aBG]
   ·rw[zn x ap (λq hq e=>ai ⟨q,hq,e⟩),aBH]
  have hK:K z:=(h1.sat z).2 λr hr=>by rw[zb r hr,one h1 r hr]
  have:=(h2.sat z).1 hK i hi;rw[zb i hi,one h2 i hi]at this;exact this
structure VK(c:Tc)(K:(Nat->Rat)->Prop)(w:List Int)(ad:Nat->Rat)(By:List (List Rat))(x cost:List Rat):Prop where
 bl:By.length=c.m
 br:∀i,i<c.m->(gt By i).length=c.N
 d:xH K c.N c.m (bL w c.N) By
 xl:x.length=c.N
 xn:∀k,k<c.N->gt w k≠1->gt x k=xw c w k
 xb:∀r,r<c.m->gt x (gt (bL w c.N) r)=aG (λk=>gt (gt By r) k*gt x k) c.N
 cl:cost.length=c.N
 cn:∀k,k<c.N->gt cost k=if gt w k=1 then 0 else ad k+aG (λr=>ad (gt (bL w c.N) r)*gt (gt By r) k) c.m
theorem VK.uniq{c:Tc}{K:(Nat->Rat)->Prop}{w:List Int}{ad:Nat->Rat}{B1 B2:List (List Rat)}{x1 x2 c1 c2:List Rat}(hn:eG w c.N=c.m)(h1:VK c K w ad B1 x1 c1)(h2:VK c K w ad B2 x2 c2):B1=B2∧x1=x2∧c1=c2:=by
 have eB:B1=B2:=bV (by rw[h1.bl,h2.bl]) λi hi=>by
  have hi:i<c.m:=by rw[<-h1.bl];exact hi
  exact bV (by rw[h1.br i hi,h2.br i hi]) λk hk=>h1.d.uniq h2.d hi (by rw[h1.br i hi]at hk;exact hk)
 subst eB;refine⟨rfl,bV (by rw[h1.xl,h2.xl]) λk hk=>?_,bV (by rw[h1.cl,h2.cl]) λk hk=>?_⟩
 ·rw[h1.xl]at hk;by_cases hw:gt w k=1
  ·obtain⟨r,hr,rfl⟩:=xf hk hw;rw[h1.xb r (by omega),h2.xb r (by omega)];refine aO _ λq hq=>?_;by_cases ac:gt w q=1
   ·obtain⟨i,hi,rfl⟩:=xf hq ac;rw[h1.d.z0 r i (by omega) (by omega),aBG,aBG]
   ·rw[h1.xn q hq ac,h2.xn q hq ac]
  ·rw[h1.xn k hk hw,h2.xn k hk hw]
 ·rw[h1.cl]at hk;rw[h1.cn k hk,h2.cn k hk]
end Go.Sx
namespace Go.Sx
open Go Go.Sv Go.Pl Go.Proofs Go.Tb Go.Ut Go.Mx Go.Li Go.Dt
theorem oz{n:Nat}:∀(A B:aC),whole n A->whole n B->whole n (A++B)
 | [],_,_,h=>h
 | none::_,_,h,_=>h.elim
 | some _::A,B,h,h'=>⟨h.1,oz A B h.2 h'⟩
theorem Cl(n:Nat)(C:List (List Rat)):whole n (eH C):=by
 unfold eH
 induction C with
 | nil=>trivial
 | cons x C ih=>exact⟨by simp,ih⟩
theorem Ap{c:Tc}(s:Tb){n:Nat}(hn:n=c.m+6):whole n (tT c s []):=by have:=sf (N:=c.N) (m:=c.m) (k:=n) (by omega);refine oz (tH c s) _ ?_ (oz _ _ (Cl _ _) trivial);simp[tH,tS,whole,this];omega
theorem ek{P:Program}{C:Ctx}{f:FuncId}{args:List SV}{c:Tc}{s:Tb}{tl:aC}{Φ:aC->SV->Prop}{W:Option (List Nat)}{K:aC->List Nat->SV->Prop}(h:kZ P f args (tT c s []) [] Φ)(hR:s.R.length=c.m)
  (ha:SV.j3 (c.m+6) args=true) (hW:∀ks,W=some ks->∀k,k<c.m+6->k∈ks)
  (hK:∀T1 y,Φ T1 y->∃s',T1=tT c s' []∧s'.R.length=c.m∧y.lt (c.m+6)=true∧K (tT c s' tl) [] y):dK P C f args (tT c s tl) W K:=by
 have e:∀s:Tb,tT c s tl=tT c s []++tl:=λs=>by simp[tT]
 have hl:(tT c s []).length=c.m+6:=by rw[jW hR];rfl
 rw[e];refine Kq h (by rw[hl];exact Ap s rfl) (by rw[hl];exact ha) (λks q=>by rw[hl];exact hW ks q) λT1 y hΦ=>?_;obtain⟨s',rfl,g1,g2,g3⟩:=hK T1 y hΦ;rw[e]at g3;exact⟨by rw[hl];exact Ap s' rfl,by rw[hl,jW g1];rfl,by rw[hl];exact g2,g3⟩
theorem Ei{P:Program}{C:Ctx}{f:FuncId}{args:List SV}{c:Tc}{s:Tb}{Φ:aC->SV->Prop}{W:Option (List Nat)}{K:aC->List Nat->SV->Prop}(h:kZ P f args (tT c s []) [] Φ)(hR:s.R.length=c.m)
  (ha:SV.j3 (c.m+6) args=true) (hW:∀ks,W=some ks->∀k,k<c.m+6->k∈ks)
  (hK:∀T1 y,Φ T1 y->∃s',T1=tT c s' []∧s'.R.length=c.m∧y.lt (c.m+6)=true∧K (tH c s'++eH s'.R) [] y):dK P C f args (tH c s++eH s.R) W K:=by
 have e:∀s:Tb,tH c s++eH s.R=tT c s []:=λs=>by simp[tT]
 rw[e];refine ek h hR ha hW λT1 y hΦ=>?_;obtain⟨s',h1,h2,h3,h4⟩:=hK T1 y hΦ;rw[e]at h4;exact⟨s',h1,h2,h3,h4⟩
end Go.Sx
namespace Go.Proofs
open Go.Sv Go Go.Tb Go.Pl Go.Ut Go.Mx Go.Li Go.Dt Go.Sx
noncomputable def setBody:Code:=Tryz.f84.body.getD .skip
structure BN(c:Tc):Prop where
 lo:∀k,k<c.N->qw 2200 (gt c.low k).at'
 hi:∀k,k<c.N->qw 2200 (gt c.high k).at'
theorem CQ{c:Tc}(h:BN c)(w:List Int){k:Nat}(hk:k<c.N):qw 2200 (xw c w k):=by
 unfold xw;split
 ·exact h.lo k hk
 ·split
  ·exact h.hi k hk
  ·exact ax (mG (k:=1) (x:=0) (kF _) (by omega)) (by omega)
theorem EH{e n:Nat}(h:e<=n)(hn:n<=7):2200*5^e<=171875000:=by have:5^e<=5^7:=Nat.pow_le_pow_right (by omega) (by omega);omega
theorem abh{c:Tc}{w:List Int}{k:Nat}(h:gt w k=2):xw c w k=(gt c.low k).at':=if_pos h
theorem abN{c:Tc}{w:List Int}{k:Nat}(h:gt w k=3):xw c w k=(gt c.high k).at':=by unfold xw;rw[if_neg (by omega),if_pos h]
theorem fX(b:Bo):SV.agg (List.take 4 (dA b).cells.tail)=aS b.at':=rfl
end Go.Proofs
namespace Go.Sx
open Go Go.Sv Go.Pl Go.Proofs Go.Tb Go.Ut Go.Mx Go.Li Go.Dt
def Zn(s:Tb)(w:List Int)(N:Nat):List (List Rat):=(bL w N).map λj=>gt s.R (gt s.row j).toNat
def MX(c:Tc)(s:Tb)(w:List Int)(mx:Bool):List Rat:=(ayq c.N).map λk=>if gt w k=1 then 0 else if mx=true then -(dN c s k c.m) else dN c s k c.m
theorem UW{s:Tb}{w:List Int}{N r:Nat}(h:r<eG w N):gt (Zn s w N) r=gt s.R (gt s.row (gt (bL w N) r)).toNat:=by unfold Zn;rw[jr _ (by rw[ja];exact h)]
end Go.Sx
namespace Go.Sx
open Go Go.Sv Go.Pl Go.Proofs Go.Tb Go.Ut Go.Mx Go.Li Go.Dt
def vG(b:Bo)(x:Rat):Prop:=b.has=true->b.at'<=x
def uy(b:Bo)(x:Rat):Prop:=b.has=true->x<=b.at'
def mW(b:Bo)(x:Rat):Prop:=b.has=true->x<b.at'
def nC(b:Bo)(x:Rat):Prop:=b.has=true->b.at'<x
structure FS where
 X:Nat->Rat
 B:Nat->Prop
structure Oy(lo hi:Nat->Bo)(K:(Nat->Rat)->Prop)(N:Nat)(s s':FS)(p e:Nat):Prop where
 pN:p<N
 eN:e<N
 kx:K s.X
 bp:s.B p
 be:¬s.B e
 b':∀k,s'.B k↔(s.B k∧k≠p)∨k=e
 n:∀k,k<N->¬s.B k->vG (lo k) (s.X k)∧uy (hi k) (s.X k)
 lst:∀k,k<p->s.B k->vG (lo k) (s.X k)∧uy (hi k) (s.X k)
 x':∀k,k<N->¬s.B k->k≠e->s'.X k=s.X k
 row:∃a:Nat->Rat,(∀z,K z->z p=aG (λk=>a k*z k) N)∧(∀k,k<N->s.B k->a k=0) ∧
  (
   (((lo p).has=true∧s.X p<(lo p).at')∧s'.X p=(lo p).at'∧((0<a e∧mW (hi e) (s.X e))∨(a e<0∧nC (lo e) (s.X e)))∧∀k,k<e->¬s.B k->(0<a k->(hi k).has=true∧(hi k).at'<=s.X k)∧(a k<0->(lo k).has=true∧s.X k<=(lo k).at')) ∨
   (((hi p).has=true∧(hi p).at'<s.X p)∧s'.X p=(hi p).at'∧((a e<0∧mW (hi e) (s.X e))∨(0<a e∧nC (lo e) (s.X e)))∧∀k,k<e->¬s.B k->(a k<0->(hi k).has=true∧(hi k).at'<=s.X k)∧(0<a k->(lo k).has=true∧s.X k<=(lo k).at')))
theorem Ao{f:Nat->Rat}:∀n,(∀i,i<n->f i<=0)->aG f n<=0
 | 0,_=>by simp only[aG];exact Rat.le_refl
 | n+1,h=>by have h1:=Ao n λi hi=>h i (by omega);have h2:=h n (by omega);simp only[aG];grind
theorem Bn{f:Nat->Rat}(n:Nat)(h:∀i,i<n->0<=f i):0<=aG f n:=by
 have:=Ao (f:=λi => -f i) n λi hi=>by have:=h i hi;grind
 rw[v5]at this;grind
theorem PT{a b:Rat}(ha:0<=a)(hb:b<=0):a*b<=0:=by have:=aBU ha (show 0 <= -b by grind);grind
theorem QC{a b:Rat}(ha:a<=0)(hb:0<=b):a*b<=0:=by have:=aBU (show 0 <= -a by grind) hb;grind
theorem EI{a b:Rat}(ha:a<=0)(hb:b<=0):0<=a*b:=by have:=aBU (show 0 <= -a by grind) (show 0 <= -b by grind);grind
def B6(lo hi:Nat->Bo)(K:(Nat->Rat)->Prop)(N:Nat)(S:Nat->FS)(P E:Nat->Nat)(r a L:Nat):Prop :=
 ∀t,a<=t->t<a+L->Oy lo hi K N (S t) (S (t+1)) (P t) (E t)∧P t<r∧E t<r
variable {lo hi:Nat->Bo} {K:(Nat->Rat)->Prop} {N:Nat} {S:Nat->FS} {P E:Nat->Nat}
theorem JT{r a L t t':Nat}(h:B6 lo hi K N S P E (r+1) a L)(h1:a<=t)(h2:t<t')(h3:t'<a+L)(hp:P t=r)(he:E t'=r)(hn:∀u,t<u->u<t'->E u≠r):False:=by
 obtain⟨st,_,_⟩:=h t h1 (by omega);obtain⟨st',aq,_⟩:=h t' (by omega) h3
 -- the column itself
 have rs:∀d,t+1+d<=t'->¬(S (t+1+d)).B r∧(S (t+1+d)).X r=(S (t+1)).X r:=λd=>by
  induction d with
  | zero =>
   intro _;refine⟨λhb=>?_,rfl⟩;rcases(st.b' r).1 hb with q | q
   ·exact q.2 hp.symm
   ·exact st.be (by rw[<-q,<-hp];exact st.bp)
  | succ d ih =>
   intro hd;obtain⟨i1,i2⟩:=ih (by omega);obtain⟨su,_,_⟩:=h (t+1+d) (by omega) (by omega);have rN:r<N:=by rw[<-hp];exact st.pN
   refine⟨λhb=>?_,by rw[show t+1+(d+1)=t+1+d+1 by omega,su.x' r rN i1 (λe=>hn _ (by omega) (by omega) e.symm),i2]⟩;rcases(su.b' r).1 hb with q | q
   ·exact i1 q.1
   ·exact hn (t+1+d) (by omega) (by omega) q.symm
 -- those behind it
 have rb:∀d,t+d<=t'->∀k,r<k->k<N->((S (t+d)).B k↔(S t).B k)∧(¬(S t).B k->(S (t+d)).X k=(S t).X k):=λd=>by
  induction d with
  | zero=>intro _ k _ _;exact⟨Iff.rfl,λ_=>rfl⟩
  | succ d ih =>
   intro hd k hk ae;obtain⟨i1,i2⟩:=ih (by omega) k hk ae;obtain⟨su,u1,u2⟩:=h (t+d) (by omega) (by omega);refine⟨?_,λaj=>?_⟩
   ·rw[show t+(d+1)=t+d+1 by omega,su.b' k,<-i1];constructor
    ·rintro(q | q)
     ·exact q.1
     ·omega
    ·exact λq=>.inl ⟨q,by omega⟩
   ·rw[show t+(d+1)=t+d+1 by omega,su.x' k ae (λq=>aj (i1.1 q)) (by omega),i2 aj]
 obtain⟨n1,n2⟩:=rs (t' - (t+1)) (by omega);rw[show t+1+(t' - (t+1))=t' by omega]at n1 n2;have af:=rb (t' - t) (by omega);rw[show t+(t' - t)=t' by omega]at af;obtain⟨a',row,az,cases'⟩:=st'.row;have aH:P t'≠r:=λe=>n1 (by rw[<-e];exact st'.bp);have au:P t'<r:=by omega
 -- at the earlier time all below r stand within their bounds
 have Zi:∀k,k<r->k<N->vG (lo k) ((S t).X k)∧uy (hi k) ((S t).X k):=λk hk ae=>by
  by_cases hb:(S t).B k
  ·exact st.lst k (by omega) hb
  ·exact st.n k ae hb
 have pb:=Zi _ au st'.pN;have df:(S t).X (P t') - (S t').X (P t')=aG (λk=>a' k*((S t).X k - (S t').X k)) N:=by rw[row _ st.kx,row _ st'.kx,<-kN];exact aO _ λk _=>by grind
 rw[he]at cases';obtain⟨ar,av,aJ,casesr⟩:=st.row;rw[hp]at casesr;have vr:((lo r).has=true∧(S t).X r<(lo r).at'∧(S t').X r=(lo r).at')∨((hi r).has=true∧(hi r).at'<(S t).X r∧(S t').X r=(hi r).at'):=by
  rcases casesr with⟨q1,q2,_⟩ | ⟨q1,q2,_⟩
  ·exact .inl ⟨q1.1,q1.2,by rw[n2,q2]⟩
  ·exact .inr ⟨q1.1,q1.2,by rw[n2,q2]⟩
 rcases cases' with⟨c1,c2,c3,c4⟩ | ⟨c1,c2,c3,c4⟩
 ·have le:aG (λk=>a' k*((S t).X k - (S t').X k)) N<=0:=Ao N λk hk=>by
   by_cases hb:(S t').B k
   ·rw[az k hk hb];grind
   ·rcases aBT k r with g | g | g
    ·obtain⟨i1,i2⟩:=Zi k g hk;obtain⟨j1,j2⟩:=c4 k g hb;rcases aBV (a:=a' k) (b:=0)with s | s
     ·by_cases z:a' k=0
      ·rw[z];grind
      ·have q:=j2 (by grind);have:=i1 q.1;exact QC s (by grind)
     ·by_cases z:a' k=0
      ·rw[z];grind
      ·have q:=j1 (by grind);have:=i2 q.1;exact PT s (by grind)
    ·subst g;rcases c3 with⟨s1,s2⟩ | ⟨s1,s2⟩
     ·rcases vr with⟨v1,v2,v3⟩ | ⟨v1,v2,v3⟩
      ·exact PT (by grind) (by grind)
      ·have:=s2 v1;grind
     ·rcases vr with⟨v1,v2,v3⟩ | ⟨v1,v2,v3⟩
      ·have:=s2 v1;grind
      ·exact QC (by grind) (by grind)
    ·obtain⟨b1,b2⟩:=af k g hk;rw[b2 (λq=>hb (b1.2 q))];grind
  have:=pb.1 c1.1;have:=c1.2;grind
 ·have ge:0<=aG (λk=>a' k*((S t).X k - (S t').X k)) N:=Bn N λk hk=>by
   by_cases hb:(S t').B k
   ·rw[az k hk hb];grind
   ·rcases aBT k r with g | g | g
    ·obtain⟨i1,i2⟩:=Zi k g hk;obtain⟨j1,j2⟩:=c4 k g hb;rcases aBV (a:=a' k) (b:=0)with s | s
     ·by_cases z:a' k=0
      ·rw[z];grind
      ·have q:=j1 (by grind);have:=i2 q.1;exact EI s (by grind)
     ·by_cases z:a' k=0
      ·rw[z];grind
      ·have q:=j2 (by grind);have:=i1 q.1;exact aBU s (by grind)
    ·subst g;rcases c3 with⟨s1,s2⟩ | ⟨s1,s2⟩
     ·rcases vr with⟨v1,v2,v3⟩ | ⟨v1,v2,v3⟩
      ·exact EI (by grind) (by grind)
      ·have:=s2 v1;grind
     ·rcases vr with⟨v1,v2,v3⟩ | ⟨v1,v2,v3⟩
      ·have:=s2 v1;grind
      ·exact aBU (by grind) (by grind)
    ·obtain⟨b1,b2⟩:=af k g hk;rw[b2 (λq=>hb (b1.2 q))];grind
  have:=pb.2 c1.1;have:=c1.2;grind
theorem B6.part{r a L b M:Nat}(h:B6 lo hi K N S P E r a L)(h1:a<=b)(h2:b+M<=a+L):B6 lo hi K N S P E r b M:=λt g1 g2=>h t (by omega) (by omega)
theorem B6.less{r a L:Nat}(h:B6 lo hi K N S P E (r+1) a L)(hn:∀t,a<=t->t<a+L->P t≠r∧E t≠r):B6 lo hi K N S P E r a L:=λt g1 g2=>by obtain⟨h1,h2,h3⟩:=h t g1 g2;obtain⟨n1,n2⟩:=hn t g1 g2;exact⟨h1,by omega,by omega⟩
theorem u9{Q:Nat->Prop}{a L:Nat}(h:∃t,a<=t∧t<a+L∧Q t):∃t,a<=t∧t<a+L∧Q t∧∀u,a<=u->u<t->¬Q u:=by
 obtain⟨t,h1,h2,h3⟩:=h;have:∀d t,t=a+d->t<a+L->Q t->∃t,a<=t∧t<a+L∧Q t∧∀u,a<=u->u<t->¬Q u:=λd=>by
  induction d using Nat.strongRecOn with
  | ind d ih =>
   intro t e l q;by_cases g:∃u,a<=u∧u<t∧Q u
   ·obtain⟨u,g1,g2,g3⟩:=g;exact ih (u - a) (by omega) u (by omega) (by omega) g3
   ·exact⟨t,by omega,l,q,λu g1 g2 g3=>g ⟨u,g1,g2,g3⟩⟩
 exact this (t - a) t (by omega) h2 h3
theorem Gx{r a L:Nat}(h:B6 lo hi K N S P E (r+1) a L)(h0:¬(S a).B r)(hn:∀t,a<=t->t<a+L->E t≠r):∀d,d<=L->¬(S (a+d)).B r
 | 0,_=>h0
 | d+1,hd=>λhb=>by
  obtain⟨su,_,_⟩:=h (a+d) (by omega) (by omega);rcases(su.b' r).1 hb with q | q
  ·exact Gx h h0 hn d (by omega) q.1
  ·exact hn (a+d) (by omega) (by omega) q.symm
theorem HE:∀(r a L:Nat),B6 lo hi K N S P E r a L->L<3^r
 | 0,a,L,h=>by apply aBW;intro hL;simp at hL;obtain⟨_,g,_⟩:=h a (by omega) (by omega);omega
 | r+1,a,L,h=>by
  have ih:=HE r
  -- without r's coming in
  have A:∀b M,a<=b->b+M<=a+L->(∀t,b<=t->t<b+M->E t≠r)->M<2*3^r:=λb M g1 g2 hn=>by
   have hb:=h.part g1 g2;by_cases hl:∃t,b<=t∧t<b+M∧P t=r
   ·obtain⟨t,t1,t2,t3,t4⟩:=u9 hl;have u:=ih b (t - b) ((hb.part (axq _) (by omega)).less λu u1 u2=>⟨t4 u u1 (by omega),hn u u1 (by omega)⟩);have st:=(hb t t1 t2).1;have out:=Gx (hb.part (b:=t+1) (M:=b+M - (t+1)) (by omega) (by omega)) (λhB=>by
     rcases(st.b' r).1 hB with q | q
     ·exact q.2 t3.symm
     ·exact hn t t1 t2 q.symm) (λu u1 u2=>hn u (by omega) (by omega))
    have v:=ih (t+1) (b+M - (t+1)) ((hb.part (by omega) (by omega)).less λu u1 u2=>⟨λe=>by have:=out (u - (t+1)) (by omega);rw[show t+1+(u - (t+1))=u by omega]at this;exact this (by rw[<-e];exact(hb u (by omega) (by omega)).1.bp),hn u (by omega) (by omega)⟩)
    omega
   ·have:=ih b M (hb.less λt t1 t2=>⟨λe=>hl ⟨t,t1,t2,e⟩,hn t t1 t2⟩);omega
  rw[ayX];by_cases he:∃t,a<=t∧t<a+L∧E t=r
  ·obtain⟨t,t1,t2,t3,t4⟩:=u9 he;have u:=ih a (t - a) ((h.part (axq _) (by omega)).less λu u1 u2=>⟨λe=>JT h u1 (by omega) t2 e t3 (λw w1 w2=>t4 w (by omega) w2),t4 u u1 (by omega)⟩);have v:=A (t+1) (a+L - (t+1)) (by omega) (by omega) λw w1 w2 e=>by
    -- the first coming in behind t; a leaving lies between
    obtain⟨w,g1,g2,g3,g4⟩:=u9 (Q:=λw=>E w=r) (a:=t+1) (L:=a+L - (t+1)) ⟨w,w1,w2,e⟩;have lv:∃u,t+1<=u∧u<t+1+(w - (t+1))∧P u=r:=by
     apply aBW;intro aw;have E1:∀d,t+1+d<=w->(S (t+1+d)).B r:=λd=>by
      induction d with
      | zero=>intro _;exact((h t t1 t2).1.b' r).2 (.inr t3.symm)
      | succ d ih =>
       intro hd;exact((h (t+1+d) (by omega) (by omega)).1.b' r).2 (.inl ⟨ih (by omega),λe=>aw ⟨t+1+d,by omega,by omega,e.symm⟩⟩)
     have:=E1 (w - (t+1)) (by omega);rw[show t+1+(w - (t+1))=w by omega]at this;exact(h w (by omega) (by omega)).1.be (by rw[g3];exact this)
    obtain⟨u,u1,u2,u3⟩:=lv;exact JT h (t:=u) (t':=w) (by omega) (by omega) (by omega) u3 g3 (λx x1 x2=>g4 x (by omega) x2)
   omega
  ·have:=A a L (axq _) (axq _) λt t1 t2 e=>he ⟨t,t1,t2,e⟩;omega
end Go.Sx
namespace Go.Sx
open Go Go.Sv Go.Pl Go.Proofs Go.Tb Go.Ut Go.Mx Go.Li Go.Dt
structure UF(lo hi:Nat->Bo)(K:(Nat->Rat)->Prop)(cost:Nat->Rat)(N:Nat)(X:Nat->Rat)(B B':Nat->Prop)(p e:Nat):Prop where
 pN:p<N
 eN:e<N
 bp:B p
 be:¬B e
 b':∀k,B' k↔(B k∧k≠p)∨k=e
 red:∃d D:Nat->Rat,(∀z,K z->aG (λk=>cost k*z k) N=aG (λk=>d k*z k) N)∧(∀k,k<N->B k->d k=0)∧K D∧(∀k,k<N->¬B k->k≠e->D k=0) ∧
  ((D e=1∧d e<0∧mW (hi e) (X e))∨(D e = -1∧0<d e∧nC (lo e) (X e))) ∧
  (∀k,k<e->¬B k->(d k<0->(hi k).has=true∧(hi k).at'<=X k)∧(0<d k->(lo k).has=true∧X k<=(lo k).at')) ∧
  ((0<D p∧(hi p).has=true∧(hi p).at'<=X p)∨(D p<0∧(lo p).has=true∧X p<=(lo p).at')) ∧
  (∀k,k<p->B k->(0<D k->mW (hi k) (X k))∧(D k<0->nC (lo k) (X k)))
def BU(lo hi:Nat->Bo)(K:(Nat->Rat)->Prop)(cost:Nat->Rat)(N:Nat)(X:Nat->Rat)(S:Nat->Nat->Prop)(P E:Nat->Nat)(r a L:Nat):Prop :=
 ∀t,a<=t->t<a+L->UF lo hi K cost N X (S t) (S (t+1)) (P t) (E t)∧P t<r∧E t<r
variable {lo hi:Nat->Bo} {K:(Nat->Rat)->Prop} {cost:Nat->Rat} {N:Nat} {X:Nat->Rat} {S:Nat->Nat->Prop} {P E:Nat->Nat}
theorem BU.part{r a L b M:Nat}(h:BU lo hi K cost N X S P E r a L)(h1:a<=b)(h2:b+M<=a+L):BU lo hi K cost N X S P E r b M:=λt g1 g2=>h t (by omega) (by omega)
theorem BU.less{r a L:Nat}(h:BU lo hi K cost N X S P E (r+1) a L)(hn:∀t,a<=t->t<a+L->P t≠r∧E t≠r):BU lo hi K cost N X S P E r a L:=λt g1 g2=>by obtain⟨h1,h2,h3⟩:=h t g1 g2;obtain⟨n1,n2⟩:=hn t g1 g2;exact⟨h1,by omega,by omega⟩
theorem AV{r a L:Nat}(h:BU lo hi K cost N X S P E (r+1) a L):∀d,d<=L->∀k,r<k->(S (a+d) k↔S a k)
 | 0,_,k,_=>Iff.rfl
 | d+1,hd,k,hk=>by
  obtain⟨su,u1,u2⟩:=h (a+d) (by omega) (by omega);rw[show a+(d+1)=a+d+1 by omega,su.b' k,<-AV h d (by omega) k hk];constructor
  ·rintro(q | q)
   ·exact q.1
   ·omega
  ·exact λq=>.inl ⟨q,by omega⟩
theorem yN{r a L t t':Nat}(h:BU lo hi K cost N X S P E (r+1) a L)(h1:a<=t)(h2:t<a+L)(h3:a<=t')(h4:t'<a+L)(he:E t=r)(hp:P t'=r):False:=by
 obtain⟨st,_,_⟩:=h t h1 h2;obtain⟨st',aq,aK⟩:=h t' h3 h4;have ay:∀k,r<k->(S t k↔S t' k):=λk hk=>by have e1:=AV h (t - a) (by omega) k hk;have e2:=AV h (t' - a) (by omega) k hk;rw[show a+(t - a)=t by omega]at e1;rw[show a+(t' - a)=t' by omega]at e2;exact e1.trans e2.symm
 obtain⟨d,D0,row,dz,_,_,en,lst,_,_⟩:=st.red;obtain⟨d',D,ag,aA,KD,Dz,ah,_,lv,aa⟩:=st'.red;rw[he]at en lst;rw[hp]at lv aa;have aL:E t'≠r:=λe=>st'.be (by rw[e,<-hp];exact st'.bp);have o1:aG (λk=>d' k*D k) N=d' (E t')*D (E t'):=cA (p:=E t') N st'.eN λk hk aD=>by
  by_cases hb:S t' k
  ·rw[aA k hk hb,aBG]
  ·rw[Dz k hk hb aD,aBH]
 have neg:d' (E t')*D (E t')<0:=by
  rcases ah with⟨q1,q2,_⟩ | ⟨q1,q2,_⟩
  ·rw[q1];grind
  ·rw[q1];grind
 have eq:aG (λk=>d k*D k) N=aG (λk=>d' k*D k) N:=by rw[<-row _ KD,<-ag _ KD]
 have ge:0<=aG (λk=>d k*D k) N:=Bn N λk hk=>by
  by_cases hb:S t k
  ·rw[dz k hk hb];grind
  ·rcases aBT k r with g | g | g
   ·obtain⟨l1,l2⟩:=lst k g hb
    -- at t' it does not go on
    have up:0<D k->mW (hi k) (X k):=λhD=>by
     by_cases ab:S t' k
     ·exact(aa k g ab).1 hD
     ·by_cases ke:k=E t'
      ·rcases ah with⟨q1,q2,q3⟩ | ⟨q1,q2,q3⟩
       ·rw[ke];exact q3
       ·rw[ke,q1]at hD;exact absurd hD (by decide)
      ·rw[Dz k hk ab ke]at hD;exact absurd hD (by decide)
    have dn:D k<0->nC (lo k) (X k):=λhD=>by
     by_cases ab:S t' k
     ·exact(aa k g ab).2 hD
     ·by_cases ke:k=E t'
      ·rcases ah with⟨q1,q2,q3⟩ | ⟨q1,q2,q3⟩
       ·rw[ke,q1]at hD;exact absurd hD (by decide)
       ·rw[ke];exact q3
      ·rw[Dz k hk ab ke]at hD;exact absurd hD (by decide)
    rcases aBV (a:=d k) (b:=0)with s | s
    ·by_cases z:d k=0
     ·rw[z];grind
     ·have q:=l1 (by grind);refine EI s ?_;apply aBW;intro hc;have:=up (by grind) q.1;grind
    ·by_cases z:d k=0
     ·rw[z];grind
     ·have q:=l2 (by grind);refine aBU s ?_;apply aBW;intro hc;have:=dn (by grind) q.1;grind
   ·subst g;rcases en with⟨_,q2,q3⟩ | ⟨_,q2,q3⟩
    ·rcases lv with⟨v1,v2,v3⟩ | ⟨v1,v2,v3⟩
     ·have:=q3 v2;grind
     ·exact EI (by grind) (by grind)
    ·rcases lv with⟨v1,v2,v3⟩ | ⟨v1,v2,v3⟩
     ·exact aBU (by grind) (by grind)
     ·have:=q3 v2;grind
   ·have ab:¬S t' k:=λq=>hb ((ay k g).2 q);rw[Dz k hk ab (by omega)];grind
 rw[eq,o1]at ge;grind
theorem Fc:∀(r a L:Nat),BU lo hi K cost N X S P E r a L->L<2^r
 | 0,a,L,h=>by apply aBW;intro hL;simp at hL;obtain⟨_,g,_⟩:=h a (by omega) (by omega);omega
 | r+1,a,L,h=>by
  have ih:=Fc r;rw[ayX]
  -- at most one time at which r comes in or leaves
  by_cases ht:∃t,a<=t∧t<a+L∧(P t=r∨E t=r)
  ·obtain⟨t,t1,t2,t3,t4⟩:=u9 ht;have u:=ih a (t - a) ((h.part (axq _) (by omega)).less λu u1 u2=>by
    have:=t4 u u1 (by omega);exact⟨λe=>this (.inl e),λe=>this (.inr e)⟩)
   have st:=(h t t1 t2).1;have aE:∀d,t+1+d<a+L->((S (t+1+d) r↔S (t+1) r)∧P (t+1+d)≠r∧E (t+1+d)≠r):=λd=>by
    induction d with
    | zero =>
     intro hd;have su:=(h (t+1) (by omega) hd).1;rcases t3 with e | e
     ·have nb:¬S (t+1) r:=λhB=>by
       rcases(st.b' r).1 hB with q | q
       ·exact q.2 e.symm
       ·exact st.be (by rw[<-q,<-e];exact st.bp)
      exact⟨Iff.rfl,λq=>nb (by rw[<-q];exact su.bp),λq=>yN h (by omega) hd t1 t2 q e⟩
     ·have ib:S (t+1) r:=(st.b' r).2 (.inr e.symm);exact⟨Iff.rfl,λq=>yN h t1 t2 (by omega) hd e q,λq=>su.be (by rw[show t+1+0=t+1 by rfl]at q;rw[q];exact ib)⟩
    | succ d aF =>
     intro hd;obtain⟨i1,i2,i3⟩:=aF (by omega);have sv:=(h (t+1+d) (by omega) (by omega)).1;have su:=(h (t+1+(d+1)) (by omega) hd).1;have iff:S (t+1+(d+1)) r↔S (t+1) r:=by
      rw[show t+1+(d+1)=t+1+d+1 by omega,sv.b' r,<-i1];constructor
      ·rintro(q | q)
       ·exact q.1
       ·exact absurd q.symm i3
      ·exact λq=>.inl ⟨q,λq'=>i2 q'.symm⟩
     rcases t3 with e | e
     ·have nb:¬S (t+1) r:=λhB=>by
       rcases(st.b' r).1 hB with q | q
       ·exact q.2 e.symm
       ·exact st.be (by rw[<-q,<-e];exact st.bp)
      exact⟨iff,λq=>nb (iff.1 (by rw[<-q];exact su.bp)),λq=>yN h (by omega) hd t1 t2 q e⟩
     ·have ib:S (t+1) r:=(st.b' r).2 (.inr e.symm);exact⟨iff,λq=>yN h t1 t2 (by omega) hd e q,λq=>su.be (by rw[q];exact iff.2 ib)⟩
   have v:=ih (t+1) (a+L - (t+1)) ((h.part (by omega) (by omega)).less λu u1 u2=>by have:=(aE (u - (t+1)) (by omega)).2;rw[show t+1+(u - (t+1))=u by omega]at this;exact this)
   omega
  ·have:=ih a L (h.less λt t1 t2=>⟨λe=>ht ⟨t,t1,t2,.inl e⟩,λe=>ht ⟨t,t1,t2,.inr e⟩⟩);omega
end Go.Sx

