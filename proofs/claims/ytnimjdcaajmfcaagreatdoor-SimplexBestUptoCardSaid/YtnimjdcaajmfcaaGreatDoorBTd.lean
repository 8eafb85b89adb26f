/- A text of the prover's own. -/
import Derived.Test.YtnimjdcaajmfcaaGreatDoorBSf
import Derived.Test.YtnimjdcaajmfcaaGreatDoorBKi
open List renaming range->ati,mem_range->avp,mem_filter->att,getElem_of_mem->avA
open Nat renaming lt_trichotomy->avC,le_refl->asN,pow_succ->atL
open Rat renaming zero_mul->avq,mul_zero->avr,mul_nonneg->avD,le_total->avE
open Classical renaming byContradiction->avF
namespace Go.Sx
open Go Go.Sv Go.Pl Go.Proofs Go.Tb Go.Ut Go.Mx Go.Li Go.Dt
def bL(w:List Int)(N:Nat):List Nat:=(ati N).filter λk=>decide (gt w k=1)
def oL(w:List Int)(N:Nat):List Nat:=bL w N++(ati N).filter λk=>!decide (gt w k=1)
theorem Qc(w:List Int)(N:Nat):bL w (N+1)=bL w N++if gt w N=1 then[N] else[]:=by unfold bL;rw[List.range_succ,List.filter_append];congr 1;by_cases h:gt w N=1<;>simp[h]
theorem BD(w:List Int):∀N,(bL w N).length=kQ w N
 | 0=>rfl
 | N+1=>by rw[Qc,List.length_append,BD w N];simp only[kQ];split<;>rfl
theorem xa(w:List Int)(N:Nat):(oL w N).Perm (ati N):=List.filter_append_perm _ _
theorem Ci(w:List Int)(N:Nat):(oL w N).length=N:=by rw[(xa w N).length_eq,List.length_range]
theorem IG{l:List Nat}{i:Nat}(h:i<l.length):gt l i=l[i]:=by simp[gt,h]
theorem SY{l:List Nat}(h:l.Nodup){i j:Nat}(hi:i<l.length)(hj:j<l.length)(e:gt l i=gt l j):i=j:=by
 rw[IG hi,IG hj]at e;have hp:=List.pairwise_iff_getElem.1 h;rcases avC i j with g | g | g
 ·exact absurd e (hp i j hi hj g)
 ·exact g
 ·exact absurd e.symm (hp j i hj hi g)
theorem HA{w:List Int}{N k:Nat}(h:k<N):gt (oL w N) k<N:=by have:=(xa w N).mem_iff.1 (gZ (show k<(oL w N).length by rw[Ci];exact h));exact avp.1 this
theorem Ma(w:List Int)(N:Nat):(oL w N).Nodup:=(xa w N).nodup_iff.2 List.nodup_range
theorem Bv{w:List Int}{N i j:Nat}(hi:i<N)(hj:j<N)(e:gt (oL w N) i=gt (oL w N) j):i=j:=SY (Ma w N) (by rw[Ci];exact hi) (by rw[Ci];exact hj) e
theorem Eg{w:List Int}{N k:Nat}(h:k<kQ w N):gt (oL w N) k=gt (bL w N) k:=by unfold oL;simp only[gt,List.getD_eq_getElem?_getD];rw[List.getElem?_append_left (by rw[BD];exact h)]
theorem GU{w:List Int}{N k:Nat}(h:k<kQ w N):gt (bL w N) k<N∧gt w (gt (bL w N) k)=1:=by have hm:=gZ (show k<(bL w N).length by rw[BD];exact h);have:=att.1 (show gt (bL w N) k∈(ati N).filter (λk=>decide (gt w k=1)) from hm);exact⟨avp.1 this.1,by simpa using this.2⟩
theorem TV{w:List Int}{N k:Nat}(hk:k<N)(h:gt w k=1):∃r,r<kQ w N∧gt (bL w N) r=k:=by
 have:k∈bL w N:=by unfold bL;rw[att];exact⟨avp.2 hk,by simpa using h⟩
 obtain⟨r,hr,e⟩:=avA this;exact⟨r,by rw[<-BD];exact hr,by rw[IG hr];exact e⟩
theorem MN{w:List Int}{N i j:Nat}(hi:i<kQ w N)(hj:j<kQ w N)(e:gt (bL w N) i=gt (bL w N) j):i=j:=by have:=Mg w N;exact Bv (w:=w) (N:=N) (by omega) (by omega) (by rw[Eg hi,Eg hj,e])
def yj(p:aB)(n i k:Nat):Rat:=if k<n then cW (gt p.rows i).aC k else if k=n+i then -1 else 0
def wx(p:aB)(n m N:Nat)(ord:List Nat):List (List Rat):=(ati m).map λi=>(ati N).map λk=>yj p n i (gt ord k)
theorem sr(p:aB)(n m N:Nat)(ord:List Nat):(wx p n m N ord).length=m:=by simp[wx]
theorem Ih{p:aB}{n m N:Nat}{ord:List Nat}{i k:Nat}(hi:i<m)(hk:k<N):gt (gt (wx p n m N ord) i) k=yj p n i (gt ord k):=by unfold wx;rw[bF _ hi,bF _ hk]
theorem Iz(p:aB)(n m N:Nat)(ord:List Nat):Sh m N (wx p n m N ord) where
 l:=sr ..
 r i hi:=by unfold wx;rw[bF _ hi];simp
def Kp(p:aB)(n m:Nat)(z:Nat->Rat):Prop:=∀i,i<m->z (n+i)=aH (λk=>cW (gt p.rows i).aC k*z k) n
theorem NP{p:aB}{n m i:Nat}(hi:i<m)(z:Nat->Rat):aH (λk=>yj p n i k*z k) (n+m)=aH (λk=>cW (gt p.rows i).aC k*z k) n - z (n+i):=by
 have e:aH (λk=>yj p n i k*z k) (n+m)=aH (λk=>(if k<n then cW (gt p.rows i).aC k*z k else 0)+(if k=n+i then -1 else 0)*z k) (n+m):=aQ _ λk hk=>by
  unfold yj;by_cases h1:k<n
  ·rw[if_pos h1,if_pos h1,if_neg (by omega)];grind
  ·rw[if_neg h1,if_neg h1];grind
 rw[e,js,Pk _ (by omega),cu (f:=λk=>(if k=n+i then -1 else 0)*z k) (p:=n+i) (n+m) (by omega) (λk _ hk=>by simp only[if_neg hk];rw[avq])];simp only[if_true];grind
theorem Fp{p:aB}{n m N:Nat}(hN:n+m=N){w:List Int}(y z:Nat->Rat)(h:∀k,k<N->y k=z (gt (oL w N) k)):UH N (wx p n m N (oL w N)) y↔Kp p n m z:=by
 subst hN;have e:∀i,i<m->aH (λk=>gt (gt (wx p n m (n+m) (oL w (n+m))) i) k*y k) (n+m)=aH (λk=>cW (gt p.rows i).aC k*z k) n - z (n+i):=λi hi=>by rw[<-NP hi z,<-Ac (f:=λk=>yj p n i k*z k) (ord:=gt (oL w (n+m))) (λk hk=>HA hk) (λa b ha hb e=>Bv ha hb e)];exact aQ _ λk hk=>by rw[Ih hi hk,h k hk]
 constructor
 ·intro hz i hi;have:=hz i (by rw[sr];exact hi);rw[e i hi]at this;grind
 ·intro hz i hi;rw[sr]at hi;rw[e i hi,hz i hi];grind
def atO(ord:List Nat)(N:Nat)(y:Nat->Rat)(x:Nat):Rat:=aH (λk=>if gt ord k=x then y k else 0) N
theorem CF{w:List Int}{N:Nat}{y:Nat->Rat}{k:Nat}(hk:k<N):atO (oL w N) N y (gt (oL w N) k)=y k:=by unfold atO;rw[cu (p:=k) N hk (λq hq aj=>if_neg λe=>aj (Bv hq hk e)),if_pos rfl]
theorem Nk{w:List Int}{N x:Nat}(hx:x<N):∃k,k<N∧gt (oL w N) k=x:=by have:x∈oL w N:=(xa w N).mem_iff.2 (avp.2 hx);obtain⟨k,hk,e⟩:=avA this;exact⟨k,by rw[<-Ci w N];exact hk,by rw[IG hk];exact e⟩
theorem PG{c:Tc}{p:aB}{w:List Int}(hN:c.n+c.m=c.N)(hn:kQ w c.N=c.m){f:List Nat}{b:Nat}(hb:b<c.m)(h:ET c.N (wx p c.n c.m c.N (oL w c.N)) f b):¬IsB c (Kp p c.n c.m) w:=λhB=>by
 obtain⟨_,y,hy,ak,al⟩:=h;have hz:=(Fp (p:=p) hN y (atO (oL w c.N) c.N y) (λk hk=>(CF hk).symm)).1 hy;have:=hB.k _ hz (λk hk hw=>by obtain⟨q,hq,rfl⟩:=Nk (w:=w) hk;rw[CF hq];refine al q ?_;apply avF;intro hc;exact hw (by rw[Eg (by omega)];exact(GU (by omega)).2)) (gt (oL w c.N) b) (HA (by omega))
 rw[CF (by omega),ak]at this;exact absurd this (by decide)
def VA(w:List Int)(N m:Nat)(R:List (List Rat))(i:Nat):List Rat:=(ati N).map λx=>atO (oL w N) N (λk=>if k<m then 0 else -(gt (gt R i) k)) x
theorem GJ{w:List Int}{N m:Nat}{R:List (List Rat)}{i k:Nat}(hk:k<N):gt (VA w N m R i) (gt (oL w N) k)=if k<m then 0 else -(gt (gt R i) k):=by unfold VA;rw[bF _ (HA hk),CF hk]
theorem Ln{c:Tc}{p:aB}{w:List Int}(hN:c.n+c.m=c.N)(hn:kQ w c.N=c.m){s:List (List Rat) × List Nat}(h:OZ c.m c.N (wx p c.n c.m c.N (oL w c.N)) s c.m) :
  u9 (Kp p c.n c.m) c.N c.m (bL w c.N) ((ati c.m).map (VA w c.N c.m s.1)) where
 bl i hi:=(GU (by omega)).1
 inj i k hi hk e:=MN (by omega) (by omega) e
 z0 r i hr hi:=by rw[bF _ hr,<-Eg (by omega),GJ (by omega),if_pos hi]
 sat z:=by
  rw[<-Fp (p:=p) hN (λk=>z (gt (oL w c.N) k)) z (λk hk=>rfl),<-h.k];have e:∀r,r<c.m->aH (λk=>gt (gt s.1 r) k*z (gt (oL w c.N) k)) c.N=z (gt (bL w c.N) r) - aH (λk=>gt (VA w c.N c.m s.1 r) k*z k) c.N:=λr hr=>by
   rw[<-Ac (f:=λk=>gt (VA w c.N c.m s.1 r) k*z k) (ord:=gt (oL w c.N)) (λk hk=>HA hk) (λa b ha hb e=>Bv ha hb e)];rw[show z (gt (bL w c.N) r)=aH (λk=>(if k=r then 1 else 0)*z (gt (oL w c.N) k)) c.N by rw[cu (p:=r) c.N (by omega) (λk _ hk=>by simp only[if_neg hk];rw[avq])];simp only[if_true];rw[Rat.one_mul,Eg (by omega)]]
   rw[<-jY];refine aQ _ λk hk=>?_;rw[GJ hk];by_cases q:k<c.m
   ·rw[h.u k q r hr,if_pos q];by_cases e:k=r
    ·rw[if_pos e,if_pos e.symm];grind
    ·rw[if_neg e,if_neg (λe'=>e e'.symm)];grind
   ·rw[if_neg q,if_neg (by omega)];grind
  have hl:=h.sh.l;constructor
  ·intro hz r hr;have:=hz r (by omega);rw[e r hr]at this;rw[bF _ hr];grind
  ·intro hz r hr;have:=hz r (by omega);rw[bF _ (by omega)]at this;show aH (λk=>gt (gt s.1 r) k*z (gt (oL w c.N) k)) c.N=0;rw[e r (by omega),this];grind
theorem u9.uniq{K:(Nat->Rat)->Prop}{N m:Nat}{b:List Nat}{R1 R2:List (List Rat)}(h1:u9 K N m b R1)(h2:u9 K N m b R2){i k:Nat}(hi:i<m)(hk:k<N):gt (gt R1 i) k=gt (gt R2 i) k:=by
 by_cases hb:∃q,q<m∧gt b q=k
 ·obtain⟨q,hq,rfl⟩:=hb;rw[h1.z0 i q hi hq,h2.z0 i q hi hq]
 ·let z:Nat->Rat:=λx=>if x=k then 1 else aH (λq=>if gt b q=x then gt (gt R1 q) k else 0) m
  have zk:z k=1:=if_pos rfl;have zb:∀q,q<m->z (gt b q)=gt (gt R1 q) k:=λq hq=>by show(if gt b q=k then(1:Rat) else _)=_;rw[if_neg (λe=>hb ⟨q,hq,e⟩),cu (p:=q) m hq (λa ha am=>if_neg λe=>am (h1.inj a q ha hq e)),if_pos rfl]
  have zn:∀x,x≠k->(∀q,q<m->gt b q≠x)->z x=0:=λx hx hq=>by show(if x=k then(1:Rat) else _)=_;rw[if_neg hx];exact gy m λq an=>if_neg (hq q an)
  have one:∀{R:List (List Rat)},u9 K N m b R->∀r,r<m->aH (λx=>gt (gt R r) x*z x) N=gt (gt R r) k:=λ{R} h r hr=>by
   rw[cu (p:=k) N hk (λx hx ao=>?_),zk,Rat.mul_one];by_cases ag:∃q,q<m∧gt b q=x
   ·obtain⟨q,hq,rfl⟩:=ag;rw[h.z0 r q hr hq,avq]
   ·rw[zn x ao (λq hq e=>ag ⟨q,hq,e⟩),avr]
  have hK:K z:=(h1.sat z).2 λr hr=>by rw[zb r hr,one h1 r hr]
  have:=(h2.sat z).1 hK i hi;rw[zb i hi,one h2 i hi]at this;exact this
structure IsF(c:Tc)(K:(Nat->Rat)->Prop)(w:List Int)(ah:Nat->Rat)(By:List (List Rat))(x cost:List Rat):Prop where
 bl:By.length=c.m
 br:∀i,i<c.m->(gt By i).length=c.N
 d:u9 K c.N c.m (bL w c.N) By
 xl:x.length=c.N
 xn:∀k,k<c.N->gt w k≠1->gt x k=xw c w k
 xb:∀r,r<c.m->gt x (gt (bL w c.N) r)=aH (λk=>gt (gt By r) k*gt x k) c.N
 cl:cost.length=c.N
 cn:∀k,k<c.N->gt cost k=if gt w k=1 then 0 else ah k+aH (λr=>ah (gt (bL w c.N) r)*gt (gt By r) k) c.m
end Go.Sx
namespace Go.Sx
open Go Go.Sv Go.Pl Go.Proofs Go.Tb Go.Ut Go.Mx Go.Li Go.Dt
theorem mL{n:Nat}:∀(A B:aD),whole n A->whole n B->whole n (A++B)
 | [],_,_,h=>h
 | none::_,_,h,_=>h.elim
 | some _::A,B,h,h'=>⟨h.1,mL A B h.2 h'⟩
theorem AM(n:Nat)(C:List (List Rat)):whole n (ey C):=by
 unfold ey
 induction C with
 | nil=>trivial
 | cons x C ih=>exact⟨by simp,ih⟩
theorem xU{c:Tc}(s:Tb){n:Nat}(hn:n=c.m+6):whole n (tT c s []):=by have:=qL (N:=c.N) (m:=c.m) (k:=n) (by omega);refine mL (tH c s) _ ?_ (mL _ _ (AM _ _) trivial);simp[tH,tS,whole,this];omega
theorem dS{P:Program}{C:Ctx}{f:FuncId}{args:List SV}{c:Tc}{s:Tb}{tl:aD}{Φ:aD->SV->Prop}{W:Option (List Nat)}{K:aD->List Nat->SV->Prop}(h:kv P f args (tT c s []) [] Φ)(hR:s.R.length=c.m)
  (ha:SV.kZ (c.m+6) args=true) (hW:∀ks,W=some ks->∀k,k<c.m+6->k∈ks)
  (hK:∀T1 y,Φ T1 y->∃s',T1=tT c s' []∧s'.R.length=c.m∧y.lt (c.m+6)=true∧K (tT c s' tl) [] y):dN P C f args (tT c s tl) W K:=by
 have e:∀s:Tb,tT c s tl=tT c s []++tl:=λs=>by simp[tT]
 have hl:(tT c s []).length=c.m+6:=by rw[jo hR];rfl
 rw[e];refine H5 h (by rw[hl];exact xU s rfl) (by rw[hl];exact ha) (λks q=>by rw[hl];exact hW ks q) λT1 y hΦ=>?_;obtain⟨s',rfl,g1,g2,g3⟩:=hK T1 y hΦ;rw[e]at g3;exact⟨by rw[hl];exact xU s' rfl,by rw[hl,jo g1];rfl,by rw[hl];exact g2,g3⟩
theorem Bn{P:Program}{C:Ctx}{f:FuncId}{args:List SV}{c:Tc}{s:Tb}{Φ:aD->SV->Prop}{W:Option (List Nat)}{K:aD->List Nat->SV->Prop}(h:kv P f args (tT c s []) [] Φ)(hR:s.R.length=c.m)
  (ha:SV.kZ (c.m+6) args=true) (hW:∀ks,W=some ks->∀k,k<c.m+6->k∈ks)
  (hK:∀T1 y,Φ T1 y->∃s',T1=tT c s' []∧s'.R.length=c.m∧y.lt (c.m+6)=true∧K (tH c s'++ey s'.R) [] y):dN P C f args (tH c s++ey s.R) W K:=by
 have e:∀s:Tb,tH c s++ey s.R=tT c s []:=λs=>by simp[tT]
 rw[e];refine dS h hR ha hW λT1 y hΦ=>?_;obtain⟨s',h1,h2,h3,h4⟩:=hK T1 y hΦ;rw[e]at h4;exact⟨s',h1,h2,h3,h4⟩
end Go.Sx
namespace Go.Proofs
open Go.Sv Go Go.Tb Go.Pl Go.Ut Go.Mx Go.Li Go.Dt Go.Sx
noncomputable def setBody:Code:=Tryz.f84.body.getD .skip
structure zG(c:Tc):Prop where
 lo:∀k,k<c.N->qw 2200 (gt c.low k).at'
 hi:∀k,k<c.N->qw 2200 (gt c.high k).at'
theorem H4{c:Tc}(h:zG c)(w:List Int){k:Nat}(hk:k<c.N):qw 2200 (xw c w k):=by
 unfold xw;split
 ·exact h.lo k hk
 ·split
  ·exact h.hi k hk
  ·exact ay (mE (k:=1) (x:=0) (jK _) (by omega)) (by omega)
theorem Iu{e n:Nat}(h:e<=n)(hn:n<=7):2200*5^e<=171875000:=by have:5^e<=5^7:=Nat.pow_le_pow_right (by omega) (by omega);omega
theorem fF(b:Bo):SV.agg (List.take 4 (dh b).cells.tail)=aU b.at':=rfl
end Go.Proofs
namespace Go.Sx
open Go Go.Sv Go.Pl Go.Proofs Go.Tb Go.Ut Go.Mx Go.Li Go.Dt
end Go.Sx
namespace Go.Sx
open Go Go.Sv Go.Pl Go.Proofs Go.Tb Go.Ut Go.Mx Go.Li Go.Dt
def tm(b:Bo)(x:Rat):Prop:=b.has=true->b.at'<=x
def ta(b:Bo)(x:Rat):Prop:=b.has=true->x<=b.at'
def mb(b:Bo)(x:Rat):Prop:=b.has=true->x<b.at'
def me(b:Bo)(x:Rat):Prop:=b.has=true->b.at'<x
structure FS where
 X:Nat->Rat
 B:Nat->Prop
structure Mj(lo hi:Nat->Bo)(K:(Nat->Rat)->Prop)(N:Nat)(s s':FS)(p e:Nat):Prop where
 pN:p<N
 eN:e<N
 kx:K s.X
 bp:s.B p
 be:¬s.B e
 b':∀k,s'.B k↔(s.B k∧k≠p)∨k=e
 n:∀k,k<N->¬s.B k->tm (lo k) (s.X k)∧ta (hi k) (s.X k)
 lst:∀k,k<p->s.B k->tm (lo k) (s.X k)∧ta (hi k) (s.X k)
 x':∀k,k<N->¬s.B k->k≠e->s'.X k=s.X k
 row:∃a:Nat->Rat,(∀z,K z->z p=aH (λk=>a k*z k) N)∧(∀k,k<N->s.B k->a k=0) ∧
  (
   (((lo p).has=true∧s.X p<(lo p).at')∧s'.X p=(lo p).at'∧((0<a e∧mb (hi e) (s.X e))∨(a e<0∧me (lo e) (s.X e)))∧∀k,k<e->¬s.B k->(0<a k->(hi k).has=true∧(hi k).at'<=s.X k)∧(a k<0->(lo k).has=true∧s.X k<=(lo k).at')) ∨
   (((hi p).has=true∧(hi p).at'<s.X p)∧s'.X p=(hi p).at'∧((a e<0∧mb (hi e) (s.X e))∨(0<a e∧me (lo e) (s.X e)))∧∀k,k<e->¬s.B k->(a k<0->(hi k).has=true∧(hi k).at'<=s.X k)∧(0<a k->(lo k).has=true∧s.X k<=(lo k).at')))
theorem x5{f:Nat->Rat}:∀n,(∀i,i<n->f i<=0)->aH f n<=0
 | 0,_=>by simp only[aH];exact Rat.le_refl
 | n+1,h=>by have h1:=x5 n λi hi=>h i (by omega);have h2:=h n (by omega);simp only[aH];grind
theorem yL{f:Nat->Rat}(n:Nat)(h:∀i,i<n->0<=f i):0<=aH f n:=by
 have:=x5 (f:=λi => -f i) n λi hi=>by have:=h i hi;grind
 rw[xK]at this;grind
theorem Lq{a b:Rat}(ha:0<=a)(hb:b<=0):a*b<=0:=by have:=avD ha (show 0 <= -b by grind);grind
theorem Kx{a b:Rat}(ha:a<=0)(hb:0<=b):a*b<=0:=by have:=avD (show 0 <= -a by grind) hb;grind
theorem CQ{a b:Rat}(ha:a<=0)(hb:b<=0):0<=a*b:=by have:=avD (show 0 <= -a by grind) (show 0 <= -b by grind);grind
def Aa(lo hi:Nat->Bo)(K:(Nat->Rat)->Prop)(N:Nat)(S:Nat->FS)(P E:Nat->Nat)(r a L:Nat):Prop :=
 ∀t,a<=t->t<a+L->Mj lo hi K N (S t) (S (t+1)) (P t) (E t)∧P t<r∧E t<r
variable {lo hi:Nat->Bo} {K:(Nat->Rat)->Prop} {N:Nat} {S:Nat->FS} {P E:Nat->Nat}
theorem I1{r a L t t':Nat}(h:Aa lo hi K N S P E (r+1) a L)(h1:a<=t)(h2:t<t')(h3:t'<a+L)(hp:P t=r)(he:E t'=r)(hn:∀u,t<u->u<t'->E u≠r):False:=by
 obtain⟨st,_,_⟩:=h t h1 (by omega);obtain⟨st',ap,_⟩:=h t' (by omega) h3
 -- the column itself
 have rs:∀d,t+1+d<=t'->¬(S (t+1+d)).B r∧(S (t+1+d)).X r=(S (t+1)).X r:=λd=>by
  induction d with
  | zero =>
   intro _;refine⟨λhb=>?_,rfl⟩;rcases(st.b' r).1 hb with q | q
   ·exact q.2 hp.symm
   ·exact st.be (by rw[<-q,<-hp];exact st.bp)
  | succ d ih =>
   intro hd;obtain⟨i1,i2⟩:=ih (by omega);obtain⟨su,_,_⟩:=h (t+1+d) (by omega) (by omega);have rN:r<N:=by rw[<-hp];exact st.pN
   refine⟨λhb=>?_,by rw[show t+1+(d+1)=t+1+d+1 by omega,su.x' r rN i1 (λe=>hn _ (by omega) (by omega) e.symm),i2]⟩;rcases(su.b' r).1 hb with q | q
   ·exact i1 q.1
   ·exact hn (t+1+d) (by omega) (by omega) q.symm
 -- those behind it
 have rb:∀d,t+d<=t'->∀k,r<k->k<N->((S (t+d)).B k↔(S t).B k)∧(¬(S t).B k->(S (t+d)).X k=(S t).X k):=λd=>by
  induction d with
  | zero=>intro _ k _ _;exact⟨Iff.rfl,λ_=>rfl⟩
  | succ d ih =>
   intro hd k hk ac;obtain⟨i1,i2⟩:=ih (by omega) k hk ac;obtain⟨su,u1,u2⟩:=h (t+d) (by omega) (by omega);refine⟨?_,λai=>?_⟩
   ·rw[show t+(d+1)=t+d+1 by omega,su.b' k,<-i1];constructor
    ·rintro(q | q)
     ·exact q.1
     ·omega
    ·exact λq=>.inl ⟨q,by omega⟩
   ·rw[show t+(d+1)=t+d+1 by omega,su.x' k ac (λq=>ai (i1.1 q)) (by omega),i2 ai]
 obtain⟨n1,n2⟩:=rs (t' - (t+1)) (by omega);rw[show t+1+(t' - (t+1))=t' by omega]at n1 n2;have ad:=rb (t' - t) (by omega);rw[show t+(t' - t)=t' by omega]at ad;obtain⟨a',row,az,cases'⟩:=st'.row;have aG:P t'≠r:=λe=>n1 (by rw[<-e];exact st'.bp);have aq:P t'<r:=by omega
 -- at the earlier time all below r stand within their bounds
 have UQ:∀k,k<r->k<N->tm (lo k) ((S t).X k)∧ta (hi k) ((S t).X k):=λk hk ac=>by
  by_cases hb:(S t).B k
  ·exact st.lst k (by omega) hb
  ·exact st.n k ac hb
 have pb:=UQ _ aq st'.pN;have df:(S t).X (P t') - (S t').X (P t')=aH (λk=>a' k*((S t).X k - (S t').X k)) N:=by rw[row _ st.kx,row _ st'.kx,<-jY];exact aQ _ λk _=>by grind
 rw[he]at cases';obtain⟨ar,au,aI,casesr⟩:=st.row;rw[hp]at casesr;have vr:((lo r).has=true∧(S t).X r<(lo r).at'∧(S t').X r=(lo r).at')∨((hi r).has=true∧(hi r).at'<(S t).X r∧(S t').X r=(hi r).at'):=by
  rcases casesr with⟨q1,q2,_⟩ | ⟨q1,q2,_⟩
  ·exact .inl ⟨q1.1,q1.2,by rw[n2,q2]⟩
  ·exact .inr ⟨q1.1,q1.2,by rw[n2,q2]⟩
 rcases cases' with⟨c1,c2,c3,c4⟩ | ⟨c1,c2,c3,c4⟩
 ·have le:aH (λk=>a' k*((S t).X k - (S t').X k)) N<=0:=x5 N λk hk=>by
   by_cases hb:(S t').B k
   ·rw[az k hk hb];grind
   ·rcases avC k r with g | g | g
    ·obtain⟨i1,i2⟩:=UQ k g hk;obtain⟨j1,j2⟩:=c4 k g hb;rcases avE (a:=a' k) (b:=0)with s | s
     ·by_cases z:a' k=0
      ·rw[z];grind
      ·have q:=j2 (by grind);have:=i1 q.1;exact Kx s (by grind)
     ·by_cases z:a' k=0
      ·rw[z];grind
      ·have q:=j1 (by grind);have:=i2 q.1;exact Lq s (by grind)
    ·subst g;rcases c3 with⟨s1,s2⟩ | ⟨s1,s2⟩
     ·rcases vr with⟨v1,v2,v3⟩ | ⟨v1,v2,v3⟩
      ·exact Lq (by grind) (by grind)
      ·have:=s2 v1;grind
     ·rcases vr with⟨v1,v2,v3⟩ | ⟨v1,v2,v3⟩
      ·have:=s2 v1;grind
      ·exact Kx (by grind) (by grind)
    ·obtain⟨b1,b2⟩:=ad k g hk;rw[b2 (λq=>hb (b1.2 q))];grind
  have:=pb.1 c1.1;have:=c1.2;grind
 ·have ge:0<=aH (λk=>a' k*((S t).X k - (S t').X k)) N:=yL N λk hk=>by
   by_cases hb:(S t').B k
   ·rw[az k hk hb];grind
   ·rcases avC k r with g | g | g
    ·obtain⟨i1,i2⟩:=UQ k g hk;obtain⟨j1,j2⟩:=c4 k g hb;rcases avE (a:=a' k) (b:=0)with s | s
     ·by_cases z:a' k=0
      ·rw[z];grind
      ·have q:=j1 (by grind);have:=i2 q.1;exact CQ s (by grind)
     ·by_cases z:a' k=0
      ·rw[z];grind
      ·have q:=j2 (by grind);have:=i1 q.1;exact avD s (by grind)
    ·subst g;rcases c3 with⟨s1,s2⟩ | ⟨s1,s2⟩
     ·rcases vr with⟨v1,v2,v3⟩ | ⟨v1,v2,v3⟩
      ·exact CQ (by grind) (by grind)
      ·have:=s2 v1;grind
     ·rcases vr with⟨v1,v2,v3⟩ | ⟨v1,v2,v3⟩
      ·have:=s2 v1;grind
      ·exact avD (by grind) (by grind)
    ·obtain⟨b1,b2⟩:=ad k g hk;rw[b2 (λq=>hb (b1.2 q))];grind
  have:=pb.2 c1.1;have:=c1.2;grind
theorem Aa.part{r a L b M:Nat}(h:Aa lo hi K N S P E r a L)(h1:a<=b)(h2:b+M<=a+L):Aa lo hi K N S P E r b M:=λt g1 g2=>h t (by omega) (by omega)
theorem Aa.less{r a L:Nat}(h:Aa lo hi K N S P E (r+1) a L)(hn:∀t,a<=t->t<a+L->P t≠r∧E t≠r):Aa lo hi K N S P E r a L:=λt g1 g2=>by obtain⟨h1,h2,h3⟩:=h t g1 g2;obtain⟨n1,n2⟩:=hn t g1 g2;exact⟨h1,by omega,by omega⟩
theorem tc{Q:Nat->Prop}{a L:Nat}(h:∃t,a<=t∧t<a+L∧Q t):∃t,a<=t∧t<a+L∧Q t∧∀u,a<=u->u<t->¬Q u:=by
 obtain⟨t,h1,h2,h3⟩:=h;have:∀d t,t=a+d->t<a+L->Q t->∃t,a<=t∧t<a+L∧Q t∧∀u,a<=u->u<t->¬Q u:=λd=>by
  induction d using Nat.strongRecOn with
  | ind d ih =>
   intro t e l q;by_cases g:∃u,a<=u∧u<t∧Q u
   ·obtain⟨u,g1,g2,g3⟩:=g;exact ih (u - a) (by omega) u (by omega) (by omega) g3
   ·exact⟨t,by omega,l,q,λu g1 g2 g3=>g ⟨u,g1,g2,g3⟩⟩
 exact this (t - a) t (by omega) h2 h3
theorem En{r a L:Nat}(h:Aa lo hi K N S P E (r+1) a L)(h0:¬(S a).B r)(hn:∀t,a<=t->t<a+L->E t≠r):∀d,d<=L->¬(S (a+d)).B r
 | 0,_=>h0
 | d+1,hd=>λhb=>by
  obtain⟨su,_,_⟩:=h (a+d) (by omega) (by omega);rcases(su.b' r).1 hb with q | q
  ·exact En h h0 hn d (by omega) q.1
  ·exact hn (a+d) (by omega) (by omega) q.symm
theorem EG:∀(r a L:Nat),Aa lo hi K N S P E r a L->L<3^r
 | 0,a,L,h=>by apply avF;intro hL;simp at hL;obtain⟨_,g,_⟩:=h a (by omega) (by omega);omega
 | r+1,a,L,h=>by
  have ih:=EG r
  -- without r's coming in
  have A:∀b M,a<=b->b+M<=a+L->(∀t,b<=t->t<b+M->E t≠r)->M<2*3^r:=λb M g1 g2 hn=>by
   have hb:=h.part g1 g2;by_cases hl:∃t,b<=t∧t<b+M∧P t=r
   ·obtain⟨t,t1,t2,t3,t4⟩:=tc hl;have u:=ih b (t - b) ((hb.part (asN _) (by omega)).less λu u1 u2=>⟨t4 u u1 (by omega),hn u u1 (by omega)⟩);have st:=(hb t t1 t2).1;have out:=En (hb.part (b:=t+1) (M:=b+M - (t+1)) (by omega) (by omega)) (λhB=>by
     rcases(st.b' r).1 hB with q | q
     ·exact q.2 t3.symm
     ·exact hn t t1 t2 q.symm) (λu u1 u2=>hn u (by omega) (by omega))
    have v:=ih (t+1) (b+M - (t+1)) ((hb.part (by omega) (by omega)).less λu u1 u2=>⟨λe=>by have:=out (u - (t+1)) (by omega);rw[show t+1+(u - (t+1))=u by omega]at this;exact this (by rw[<-e];exact(hb u (by omega) (by omega)).1.bp),hn u (by omega) (by omega)⟩)
    omega
   ·have:=ih b M (hb.less λt t1 t2=>⟨λe=>hl ⟨t,t1,t2,e⟩,hn t t1 t2⟩);omega
  rw[atL];by_cases he:∃t,a<=t∧t<a+L∧E t=r
  ·obtain⟨t,t1,t2,t3,t4⟩:=tc he;have u:=ih a (t - a) ((h.part (asN _) (by omega)).less λu u1 u2=>⟨λe=>I1 h u1 (by omega) t2 e t3 (λw w1 w2=>t4 w (by omega) w2),t4 u u1 (by omega)⟩);have v:=A (t+1) (a+L - (t+1)) (by omega) (by omega) λw w1 w2 e=>by
    -- the first coming in behind t; a leaving lies between
    obtain⟨w,g1,g2,g3,g4⟩:=tc (Q:=λw=>E w=r) (a:=t+1) (L:=a+L - (t+1)) ⟨w,w1,w2,e⟩;have lv:∃u,t+1<=u∧u<t+1+(w - (t+1))∧P u=r:=by
     apply avF;intro av;have BY:∀d,t+1+d<=w->(S (t+1+d)).B r:=λd=>by
      induction d with
      | zero=>intro _;exact((h t t1 t2).1.b' r).2 (.inr t3.symm)
      | succ d ih =>
       intro hd;exact((h (t+1+d) (by omega) (by omega)).1.b' r).2 (.inl ⟨ih (by omega),λe=>av ⟨t+1+d,by omega,by omega,e.symm⟩⟩)
     have:=BY (w - (t+1)) (by omega);rw[show t+1+(w - (t+1))=w by omega]at this;exact(h w (by omega) (by omega)).1.be (by rw[g3];exact this)
    obtain⟨u,u1,u2,u3⟩:=lv;exact I1 h (t:=u) (t':=w) (by omega) (by omega) (by omega) u3 g3 (λx x1 x2=>g4 x (by omega) x2)
   omega
  ·have:=A a L (asN _) (asN _) λt t1 t2 e=>he ⟨t,t1,t2,e⟩;omega
end Go.Sx
namespace Go.Sx
open Go Go.Sv Go.Pl Go.Proofs Go.Tb Go.Ut Go.Mx Go.Li Go.Dt
structure QG(lo hi:Nat->Bo)(K:(Nat->Rat)->Prop)(cost:Nat->Rat)(N:Nat)(X:Nat->Rat)(B B':Nat->Prop)(p e:Nat):Prop where
 pN:p<N
 eN:e<N
 bp:B p
 be:¬B e
 b':∀k,B' k↔(B k∧k≠p)∨k=e
 red:∃d D:Nat->Rat,(∀z,K z->aH (λk=>cost k*z k) N=aH (λk=>d k*z k) N)∧(∀k,k<N->B k->d k=0)∧K D∧(∀k,k<N->¬B k->k≠e->D k=0) ∧
  ((D e=1∧d e<0∧mb (hi e) (X e))∨(D e = -1∧0<d e∧me (lo e) (X e))) ∧
  (∀k,k<e->¬B k->(d k<0->(hi k).has=true∧(hi k).at'<=X k)∧(0<d k->(lo k).has=true∧X k<=(lo k).at')) ∧
  ((0<D p∧(hi p).has=true∧(hi p).at'<=X p)∨(D p<0∧(lo p).has=true∧X p<=(lo p).at')) ∧
  (∀k,k<p->B k->(0<D k->mb (hi k) (X k))∧(D k<0->me (lo k) (X k)))
def zX(lo hi:Nat->Bo)(K:(Nat->Rat)->Prop)(cost:Nat->Rat)(N:Nat)(X:Nat->Rat)(S:Nat->Nat->Prop)(P E:Nat->Nat)(r a L:Nat):Prop :=
 ∀t,a<=t->t<a+L->QG lo hi K cost N X (S t) (S (t+1)) (P t) (E t)∧P t<r∧E t<r
variable {lo hi:Nat->Bo} {K:(Nat->Rat)->Prop} {cost:Nat->Rat} {N:Nat} {X:Nat->Rat} {S:Nat->Nat->Prop} {P E:Nat->Nat}
theorem zX.part{r a L b M:Nat}(h:zX lo hi K cost N X S P E r a L)(h1:a<=b)(h2:b+M<=a+L):zX lo hi K cost N X S P E r b M:=λt g1 g2=>h t (by omega) (by omega)
theorem zX.less{r a L:Nat}(h:zX lo hi K cost N X S P E (r+1) a L)(hn:∀t,a<=t->t<a+L->P t≠r∧E t≠r):zX lo hi K cost N X S P E r a L:=λt g1 g2=>by obtain⟨h1,h2,h3⟩:=h t g1 g2;obtain⟨n1,n2⟩:=hn t g1 g2;exact⟨h1,by omega,by omega⟩
theorem yq{r a L:Nat}(h:zX lo hi K cost N X S P E (r+1) a L):∀d,d<=L->∀k,r<k->(S (a+d) k↔S a k)
 | 0,_,k,_=>Iff.rfl
 | d+1,hd,k,hk=>by
  obtain⟨su,u1,u2⟩:=h (a+d) (by omega) (by omega);rw[show a+(d+1)=a+d+1 by omega,su.b' k,<-yq h d (by omega) k hk];constructor
  ·rintro(q | q)
   ·exact q.1
   ·omega
  ·exact λq=>.inl ⟨q,by omega⟩
theorem wR{r a L t t':Nat}(h:zX lo hi K cost N X S P E (r+1) a L)(h1:a<=t)(h2:t<a+L)(h3:a<=t')(h4:t'<a+L)(he:E t=r)(hp:P t'=r):False:=by
 obtain⟨st,_,_⟩:=h t h1 h2;obtain⟨st',ap,aJ⟩:=h t' h3 h4;have aw:∀k,r<k->(S t k↔S t' k):=λk hk=>by have e1:=yq h (t - a) (by omega) k hk;have e2:=yq h (t' - a) (by omega) k hk;rw[show a+(t - a)=t by omega]at e1;rw[show a+(t' - a)=t' by omega]at e2;exact e1.trans e2.symm
 obtain⟨d,D0,row,dz,_,_,en,lst,_,_⟩:=st.red;obtain⟨d',D,ae,ax,KD,Dz,af,_,lv,aa⟩:=st'.red;rw[he]at en lst;rw[hp]at lv aa;have aK:E t'≠r:=λe=>st'.be (by rw[e,<-hp];exact st'.bp);have o1:aH (λk=>d' k*D k) N=d' (E t')*D (E t'):=cu (p:=E t') N st'.eN λk hk aA=>by
  by_cases hb:S t' k
  ·rw[ax k hk hb,avq]
  ·rw[Dz k hk hb aA,avr]
 have neg:d' (E t')*D (E t')<0:=by
  rcases af with⟨q1,q2,_⟩ | ⟨q1,q2,_⟩
  ·rw[q1];grind
  ·rw[q1];grind
 have eq:aH (λk=>d k*D k) N=aH (λk=>d' k*D k) N:=by rw[<-row _ KD,<-ae _ KD]
 have ge:0<=aH (λk=>d k*D k) N:=yL N λk hk=>by
  by_cases hb:S t k
  ·rw[dz k hk hb];grind
  ·rcases avC k r with g | g | g
   ·obtain⟨l1,l2⟩:=lst k g hb
    -- at t' it does not go on
    have up:0<D k->mb (hi k) (X k):=λhD=>by
     by_cases ab:S t' k
     ·exact(aa k g ab).1 hD
     ·by_cases ke:k=E t'
      ·rcases af with⟨q1,q2,q3⟩ | ⟨q1,q2,q3⟩
       ·rw[ke];exact q3
       ·rw[ke,q1]at hD;exact absurd hD (by decide)
      ·rw[Dz k hk ab ke]at hD;exact absurd hD (by decide)
    have dn:D k<0->me (lo k) (X k):=λhD=>by
     by_cases ab:S t' k
     ·exact(aa k g ab).2 hD
     ·by_cases ke:k=E t'
      ·rcases af with⟨q1,q2,q3⟩ | ⟨q1,q2,q3⟩
       ·rw[ke,q1]at hD;exact absurd hD (by decide)
       ·rw[ke];exact q3
      ·rw[Dz k hk ab ke]at hD;exact absurd hD (by decide)
    rcases avE (a:=d k) (b:=0)with s | s
    ·by_cases z:d k=0
     ·rw[z];grind
     ·have q:=l1 (by grind);refine CQ s ?_;apply avF;intro hc;have:=up (by grind) q.1;grind
    ·by_cases z:d k=0
     ·rw[z];grind
     ·have q:=l2 (by grind);refine avD s ?_;apply avF;intro hc;have:=dn (by grind) q.1;grind
   ·subst g;rcases en with⟨_,q2,q3⟩ | ⟨_,q2,q3⟩
    ·rcases lv with⟨v1,v2,v3⟩ | ⟨v1,v2,v3⟩
     ·have:=q3 v2;grind
     ·exact CQ (by grind) (by grind)
    ·rcases lv with⟨v1,v2,v3⟩ | ⟨v1,v2,v3⟩
     ·exact avD (by grind) (by grind)
     ·have:=q3 v2;grind
   ·have ab:¬S t' k:=λq=>hb ((aw k g).2 q);rw[Dz k hk ab (by omega)];grind
 rw[eq,o1]at ge;grind
theorem DU:∀(r a L:Nat),zX lo hi K cost N X S P E r a L->L<2^r
 | 0,a,L,h=>by apply avF;intro hL;simp at hL;obtain⟨_,g,_⟩:=h a (by omega) (by omega);omega
 | r+1,a,L,h=>by
  have ih:=DU r;rw[atL]
  -- at most one time at which r comes in or leaves
  by_cases ht:∃t,a<=t∧t<a+L∧(P t=r∨E t=r)
  ·obtain⟨t,t1,t2,t3,t4⟩:=tc ht;have u:=ih a (t - a) ((h.part (asN _) (by omega)).less λu u1 u2=>by
    have:=t4 u u1 (by omega);exact⟨λe=>this (.inl e),λe=>this (.inr e)⟩)
   have st:=(h t t1 t2).1;have aE:∀d,t+1+d<a+L->((S (t+1+d) r↔S (t+1) r)∧P (t+1+d)≠r∧E (t+1+d)≠r):=λd=>by
    induction d with
    | zero =>
     intro hd;have su:=(h (t+1) (by omega) hd).1;rcases t3 with e | e
     ·have nb:¬S (t+1) r:=λhB=>by
       rcases(st.b' r).1 hB with q | q
       ·exact q.2 e.symm
       ·exact st.be (by rw[<-q,<-e];exact st.bp)
      exact⟨Iff.rfl,λq=>nb (by rw[<-q];exact su.bp),λq=>wR h (by omega) hd t1 t2 q e⟩
     ·have ib:S (t+1) r:=(st.b' r).2 (.inr e.symm);exact⟨Iff.rfl,λq=>wR h t1 t2 (by omega) hd e q,λq=>su.be (by rw[show t+1+0=t+1 by rfl]at q;rw[q];exact ib)⟩
    | succ d aF =>
     intro hd;obtain⟨i1,i2,i3⟩:=aF (by omega);have sv:=(h (t+1+d) (by omega) (by omega)).1;have su:=(h (t+1+(d+1)) (by omega) hd).1;have iff:S (t+1+(d+1)) r↔S (t+1) r:=by
      rw[show t+1+(d+1)=t+1+d+1 by omega,sv.b' r,<-i1];constructor
      ·rintro(q | q)
       ·exact q.1
       ·exact absurd q.symm i3
      ·exact λq=>.inl ⟨q,λq'=>i2 q'.symm⟩
     rcases t3 with e | e
     ·have nb:¬S (t+1) r:=λhB=>by
       rcases(st.b' r).1 hB with q | q
       ·exact q.2 e.symm
       ·exact st.be (by rw[<-q,<-e];exact st.bp)
      exact⟨iff,λq=>nb (iff.1 (by rw[<-q];exact su.bp)),λq=>wR h (by omega) hd t1 t2 q e⟩
     ·have ib:S (t+1) r:=(st.b' r).2 (.inr e.symm);exact⟨iff,λq=>wR h t1 t2 (by omega) hd e q,λq=>su.be (by rw[q];exact iff.2 ib)⟩
   have v:=ih (t+1) (a+L - (t+1)) ((h.part (by omega) (by omega)).less λu u1 u2=>by have:=(aE (u - (t+1)) (by omega)).2;rw[show t+1+(u - (t+1))=u by omega]at this;exact this)
   omega
  ·have:=ih a L (h.less λt t1 t2=>⟨λe=>ht ⟨t,t1,t2,.inl e⟩,λe=>ht ⟨t,t1,t2,.inr e⟩⟩);omega
end Go.Sx

