/- A text of the prover's own. -/
import Derived.Test.YtnimjdcaajmfcaaGreatDoorVUz
open Rat renaming mul_zero->aBH,add_zero->aBX,zero_mul->aBG,mul_comm->aB5,div_mul_cancel->aBN,mul_pos->aB6,mul_le_mul_of_nonneg_left->aB7,mul_nonneg->aBU,mul_eq_zero->aB8
open List renaming length_eq_zero_iff->axR,mem_filter->ayF,length_cons->awV,cons_append->ayb,nil_append->aAf,append_nil->aBS
open Classical renaming byContradiction->aBW
open Bool renaming false_eq_true->aBv
namespace Go.Sx
open Go Go.Sv Go.Pl Go.Proofs Go.Tb Go.Ut Go.Mx Go.Li Go.Dt
def obj(c:Tc)(z:Nat->Rat):Rat:=aG (λk=>gt c.cost k*z k) c.N
open Classical in
noncomputable def jg(c:Tc)(s:Tb)(k:Nat):Rat:=if ∃i,i<c.m∧gt s.basic i=k then 0 else dN c s k c.m
open Classical in
theorem xy{c:Tc}{K:(Nat->Rat)->Prop}{s:Tb}(h:xH K c.N c.m s.basic s.R)(f:Nat->Rat):aG (λk=>if ∃i,i<c.m∧gt s.basic i=k then f k else 0) c.N=aG (λi=>f (gt s.basic i)) c.m:=by
 have e1:aG (λk=>if ∃i,i<c.m∧gt s.basic i=k then f k else 0) c.N=aG (λk=>aG (λi=>if gt s.basic i=k then f k else 0) c.m) c.N:=aO _ λk hk=>by
  by_cases q:∃i,i<c.m∧gt s.basic i=k
  ·rw[if_pos q];obtain⟨i,hi,e⟩:=q;rw[cA (p:=i) c.m hi (λa ha am=>if_neg λe2=>am (h.inj a i ha hi (by rw[e2,e]))),if_pos e]
  ·rw[if_neg q];exact(fi c.m λi hi=>if_neg λe=>q ⟨i,hi,e⟩).symm
 rw[e1,sF];refine aO _ λi hi=>?_;rw[cA (p:=gt s.basic i) c.N (h.bl i hi) (λk _ hk=>if_neg λe=>hk e.symm),if_pos rfl]
theorem rY{c:Tc}{K:(Nat->Rat)->Prop}{s:Tb}(h:xH K c.N c.m s.basic s.R){z:Nat->Rat}(hz:K z):obj c z=aG (λk=>jg c s k*z k) c.N:=by
 classical
 unfold obj;have e1:aG (λk=>gt c.cost k*z k) c.N=aG (λk=>(if ∃i,i<c.m∧gt s.basic i=k then 0 else gt c.cost k*z k)+(if ∃i,i<c.m∧gt s.basic i=k then gt c.cost k*z k else 0)) c.N:=aO _ λk _=>by
  by_cases q:∃i,i<c.m∧gt s.basic i=k
  ·rw[if_pos q,if_pos q];grind
  ·rw[if_neg q,if_neg q];grind
 have e2:aG (λi=>gt c.cost (gt s.basic i)*z (gt s.basic i)) c.m=aG (λk=>aG (λi=>gt c.cost (gt s.basic i)*gt (gt s.R i) k) c.m*z k) c.N:=by
  have:aG (λi=>gt c.cost (gt s.basic i)*z (gt s.basic i)) c.m=aG (λi=>aG (λk=>gt c.cost (gt s.basic i)*gt (gt s.R i) k*z k) c.N) c.m:=aO _ λi hi=>by rw[(h.sat z).1 hz i hi,<-jS];exact aO _ λk _=>by grind
  rw[this,sF];exact aO _ λk _=>by rw[<-xC]
 rw[e1,jY,xy h (λk=>gt c.cost k*z k),e2,<-jY];refine aO _ λk hk=>?_;unfold jg;by_cases q:∃i,i<c.m∧gt s.basic i=k
 ·rw[if_pos q,if_pos q];obtain⟨i,hi,rfl⟩:=q;rw[fi c.m (λr hr=>by rw[h.z0 r i hr hi,aBH])];grind
 ·rw[if_neg q,if_neg q];unfold dN;grind
noncomputable def B5(c:Tc)(s:Tb)(j:Nat)(y:Rat)(k:Nat):Rat:=if k=j then y else aG (λi=>if gt s.basic i=k then gt (gt s.R i) j*y else 0) c.m
section
variable {c:Tc} {K:(Nat->Rat)->Prop} {s:Tb} {j:Nat} {y:Rat}
theorem rQ:B5 c s j y j=y:=if_pos rfl
theorem oM(h:xH K c.N c.m s.basic s.R)(hb:∀i,i<c.m->gt s.basic i≠j){i:Nat}(hi:i<c.m):B5 c s j y (gt s.basic i)=gt (gt s.R i) j*y:=by unfold B5;rw[if_neg (hb i hi),cA (p:=i) c.m hi (λa ha am=>if_neg λe=>am (h.inj a i ha hi e)),if_pos rfl]
theorem xt{k:Nat}(af:k≠j)(hb:∀i,i<c.m->gt s.basic i≠k):B5 c s j y k=0:=by unfold B5;rw[if_neg af];exact fi c.m λi hi=>if_neg (hb i hi)
theorem I0(h:fm c K s)(hj:j<c.N)(hw:gt s.wh j≠1){k:Nat}(hk:k<c.N):gt (gj s j y c.m) k=gt s.x k+B5 c s j y k:=by
 have hb:=h.nb hj hw;by_cases e1:k=j
 ·subst e1;rw[Bq h hk hb c.m (Nat.le_refl _),rQ]
 ·by_cases e2:∃r,r<c.m∧gt s.basic r=k
  ·obtain⟨r,hr,rfl⟩:=e2;rw[mu h hj hb hr c.m (Nat.le_refl _),if_pos hr,oM h.d hb hr]
  ·rw[l5 h hk e1 (λr hr e=>e2 ⟨r,hr,e⟩) c.m (Nat.le_refl _),xt e1 (λr hr e=>e2 ⟨r,hr,e⟩),aBX]
theorem TJ(h:fm c K s)(hj:j<c.N)(hw:gt s.wh j≠1):K (B5 c s j y):=(h.d.sat _).2 λr hr=>by
 have hb:=h.nb hj hw;rw[oM h.d hb hr,cA (p:=j) c.N hj (λk hk af=>?_),rQ];by_cases e2:∃q,q<c.m∧gt s.basic q=k
 ·obtain⟨q,hq,rfl⟩:=e2;rw[h.d.z0 r q hr hq,aBG]
 ·rw[xt af (λq hq e=>e2 ⟨q,hq,e⟩),aBH]
theorem Xt(h:fm c K s)(hj:j<c.N)(hw:gt s.wh j≠1):obj c (gt (gj s j y c.m))=obj c (gt s.x)+dN c s j c.m*y:=by
 have hb:=h.nb hj hw;have e1:obj c (gt (gj s j y c.m))=obj c (gt s.x)+obj c (B5 c s j y):=by unfold obj;rw[<-jY];exact aO _ λk hk=>by rw[I0 h hj hw hk];grind
 rw[e1,rY h.d (TJ h hj hw),cA (p:=j) c.N hj (λk hk af=>?_),rQ]
 ·unfold jg;rw[if_neg (λ⟨q,hq,e⟩=>hb q hq e)]
 ·by_cases e2:∃q,q<c.m∧gt s.basic q=k
  ·unfold jg;rw[if_pos e2,aBG]
  ·rw[xt af (λq hq e=>e2 ⟨q,hq,e⟩),aBH]
end
theorem alv{c:Tc}{K:(Nat->Rat)->Prop}{a b:Tb}(ha:fm c K a)(hb:fm c K b)(e:a.wh=b.wh):∀k,k<c.N->gt a.x k=gt b.x k:=by
 have nb:∀k,k<c.N->gt a.wh k≠1->gt a.x k=gt b.x k:=λk hk hw=>by rw[ha.xn k hk hw,hb.xn k hk (by rw[<-e];exact hw),e]
 intro k hk;by_cases hw:gt a.wh k=1
 ·obtain⟨r,hr,rfl⟩:=(ha.w k hk).1 hw;rw[ha.xb r hr,(ha.d.sat _).1 hb.kx r hr];refine aO _ λq hq=>?_;by_cases aq:gt a.wh q=1
  ·obtain⟨i,hi,rfl⟩:=(ha.w q hq).1 aq;rw[ha.d.z0 r i hr hi,aBG,aBG]
  ·rw[nb q hq aq]
 ·exact nb k hk hw
theorem Of:∀(N:Nat) (l:List (List Int)),l.Nodup->(∀x,x∈l->x.length=N∧∀y,y∈x->y=0∨y=1∨y=2∨y=3)->l.length<=4^N
 | 0,l,hn,h=>by
  match l,hn,h with
  | [],_,_=>simp
  | [x],_,_=>simp
  | x::y::l,hn,h =>
   have h1:=axR.1 (h x (by simp)).1;have h2:=axR.1 (h y (by simp)).1;rw[h1,h2]at hn;simp at hn
 | N+1,l,hn,h=>by
  have part:∀v:Int,(l.filter λx=>x.head?==some v).length<=4^N:=λv=>by
   have:=Of N ((l.filter λx=>x.head?==some v).map List.tail) ?_ ?_
   ·simpa using this
   ·have hf:(l.filter λx=>x.head?==some v).Nodup:=hn.filter _;rw[List.Nodup,List.pairwise_map];refine List.Pairwise.imp_of_mem (λ{a b} ha hb av=>?_) hf;intro e;have h1:=(ayF.1 ha).2;have h2:=(ayF.1 hb).2
    match a,b,h1,h2,e with
    | [],_,h1,_,_=>simp at h1
    | _::_,[],_,h2,_=>simp at h2
    | x::a,y::b,h1,h2,e =>
     simp at h1 h2 e;exact av (by rw[h1,h2,e])
   ·intro x hx;obtain⟨y,hy,rfl⟩:=List.mem_map.1 hx;obtain⟨g1,g2⟩:=h y (ayF.1 hy).1;exact⟨by rw[List.length_tail,g1];rfl,λz hz=>g2 z (List.mem_of_mem_tail hz)⟩
  have all:∀l:List (List Int),(∀x,x∈l->x.length=N+1∧∀y,y∈x->y=0∨y=1∨y=2∨y=3)->l.length=(l.filter λx=>x.head?==some 0).length+(l.filter λx=>x.head?==some 1).length+(l.filter λx=>x.head?==some 2).length+(l.filter λx=>x.head?==some 3).length:=λl=>by
   induction l with
   | nil=>intro _;rfl
   | cons x l ih =>
    intro h;have ih:=ih λy hy=>h y (by simp[hy]);obtain⟨g1,g2⟩:=h x (by simp)
    match x,g1,g2 with
    | y::x,g1,g2 =>
     rcases g2 y (by simp)with e | e | e | e<;>subst e<;>simp[]<;>omega
  have e:=all l h;have p0:=part 0;have p1:=part 1;have p2:=part 2;have p3:=part 3;rw[Nat.pow_succ];omega
end Go.Sx
namespace Go.Sx
open Go Go.Sv Go.Pl Go.Proofs Go.Tb Go.Ut Go.Mx Go.Li Go.Dt
def L0(c:Tc)(s:Tb)(k:Nat):Prop:=(dN c s k c.m<0∧mW (gt c.high k) (gt s.x k))∨(0<dN c s k c.m∧nC (gt c.low k) (gt s.x k))
def EU(c:Tc)(s:Tb):Prop:=∀k,k<c.N->gt s.wh k≠1->¬L0 c s k
def sJ(c:Tc)(s:Tb)(j:Nat)(up:Bool):Prop:=j<c.N∧gt s.wh j≠1∧(up=true->dN c s j c.m<0)∧(up=false->0<dN c s j c.m)∧(gT c j up).has=false∧∀q,q<c.m->¬oE c s j up q
def Rb(c:Tc)(K:(Nat->Rat)->Prop)(s:Tb)(H L:Nat):Prop :=
 (∃l:List (List Int),l.Nodup∧l.length=H∧∀x,x∈l->∃a,fm c K a∧a.wh=x∧obj c (gt s.x)<obj c (gt a.x)) ∧
 ∃(S:Nat->Nat->Prop) (P E:Nat->Nat),BU (gt c.low) (gt c.high) K (gt c.cost) c.N (gt s.x) S P E c.N 0 L∧S L=λk=>∃i,i<c.m∧gt s.basic i=k
section
variable {c:Tc} {K:(Nat->Rat)->Prop} {s:Tb}
theorem Rb.zero:Rb c K s 0 0:=⟨⟨[],by simp,rfl,λx h=>by simp at h⟩,λ_=>λk=>∃i,i<c.m∧gt s.basic i=k,λ_=>0,λ_=>0,λt h1 h2=>by omega,rfl⟩
theorem Rb.j3{H L:Nat}(h:Rb c K s H L):L<2^c.N:=by obtain⟨_,S,P,E,h,_⟩:=h;exact Fc _ _ _ h
theorem Rb.cons{H L:Nat}(h:Rb c K s H L)(hs:fm c K s){s':Tb}(lt:obj c (gt s'.x)<obj c (gt s.x)):Rb c K s' (H+1) 0∧H+1<=4^c.N:=by
 obtain⟨⟨l,h1,h2,h3⟩,_⟩:=h;have aw:s.wh∉l:=λq=>by
  obtain⟨a,g1,g2,g3⟩:=h3 _ q;have e:obj c (gt a.x)=obj c (gt s.x):=by unfold obj;exact aO _ λk hk=>by rw[alv g1 hs g2 k hk]
  rw[e]at g3;grind
 have nd:(s.wh::l).Nodup:=List.nodup_cons.2 ⟨aw,h1⟩;have al:∀x,x∈s.wh::l->∃a,fm c K a∧a.wh=x∧obj c (gt s'.x)<obj c (gt a.x):=λx hx=>by
  rcases List.mem_cons.1 hx with rfl | hx
  ·exact⟨s,hs,rfl,lt⟩
  ·obtain⟨a,g1,g2,g3⟩:=h3 x hx;exact⟨a,g1,g2,by grind⟩
 refine⟨⟨⟨s.wh::l,nd,by rw[awV,h2],al⟩,Rb.zero.2⟩,?_⟩;have:=Of c.N (s.wh::l) nd λx hx=>by
  obtain⟨a,g1,rfl,_⟩:=al x hx;refine⟨g1.t.w,λy hy=>?_⟩;obtain⟨k,hk,rfl⟩:=List.mem_iff_getElem.1 hy;have e:a.wh[k]=gt a.wh k:=by simp[gt,hk]
  rw[e];rcases g1.f k (by rw[<-g1.t.w];exact hk)with q | q | q | q
  ·exact .inr (.inl q)
  ·exact .inr (.inr (.inl q.1))
  ·exact .inr (.inr (.inr q.1))
  ·exact .inl q.1
 rw[awV,h2]at this;exact this
theorem Rb.next{H L:Nat}(h:Rb c K s H L){s':Tb}{p e:Nat}(ex:s'.x=s.x)(st:UF (gt c.low) (gt c.high) K (gt c.cost) c.N (gt s.x) (λk=>∃i,i<c.m∧gt s.basic i=k) (λk=>∃i,i<c.m∧gt s'.basic i=k) p e):Rb c K s' H (L+1):=by
 obtain⟨h0,S,P,E,h,hS⟩:=h;refine⟨by rw[ex];exact h0,λt=>if t<=L then S t else λk=>∃i,i<c.m∧gt s'.basic i=k,λt=>if t<L then P t else p,λt=>if t<L then E t else e,λt h1 h2=>?_,if_neg (by omega)⟩;rw[ex];by_cases q:t<L
 ·have:=h t h1 (by omega);simp only[if_pos q,if_pos (show t<=L by omega),if_pos (show t+1<=L by omega)];exact this
 ·obtain rfl:t=L:=by omega
  simp only[if_neg (Nat.lt_irrefl t),if_pos (Nat.le_refl t),if_neg (show ¬t+1<=t by omega),hS];exact⟨st,st.pN,st.eN⟩
variable {j:Nat} {up:Bool}
theorem CA{q:Nat}(hc:oE c s j up q):gD s j up q*dQ c s j up q=if 0<gD s j up q then(gt c.high (gt s.basic q)).at' - gt s.x (gt s.basic q) else(gt c.low (gt s.basic q)).at' - gt s.x (gt s.basic q):=by
 unfold dQ;have ne:gD s j up q≠0:=by rcases hc with q | q<;>grind
 split
 ·rw[aB5,aBN ne]
 ·rw[aB5,aBN ne]
theorem Wj(h:fm c K s)(hf:mr c s){q:Nat}(hq:q<c.m)(hc:oE c s j up q):0<=dQ c s j up q:=by
 have fb:=hf _ (h.d.bl q hq);have e:=CA hc;apply aBW;intro g;have g:0 < -dQ c s j up q:=by grind
 rcases hc with⟨g1,g2⟩ | ⟨g1,g2⟩
 ·rw[if_pos g1]at e;have:=fb.2 g2;have:=aB6 g1 g;grind
 ·rw[if_neg (by grind)]at e;have:=fb.1 g2;have:=aB6 (show 0 < -gD s j up q by grind) g;grind
theorem K5(h:fm c K s)(hf:mr c s)(hj:j<c.N)(hw:gt s.wh j≠1){d:Rat}(hd:0<=d)(ho:(gT c j up).has=true->d<=dO c s j up)(hq:∀q,q<c.m->oE c s j up q->d<=dQ c s j up q) :
  ∀k,k<c.N->vG (gt c.low k) (gt (gj s j (yD up d) c.m) k)∧uy (gt c.high k) (gt (gj s j (yD up d) c.m) k):=λk hk=>by
 have hb:=h.nb hj hw;have fk:=hf k hk;rw[I0 h hj hw hk];by_cases e1:k=j
 ·subst e1;rw[rQ];cases up with
  | true =>
   simp only[yD,gT,dO,if_true]at *;exact⟨λg=>by have:=fk.1 g;grind,λg=>by have:=ho g;grind⟩
  | false =>
   simp only[yD,gT,dO,aBv,if_false]at *;exact⟨λg=>by have:=ho g;grind,λg=>by have:=fk.2 g;grind⟩
 ·by_cases e2:∃r,r<c.m∧gt s.basic r=k
  ·obtain⟨r,hr,rfl⟩:=e2;rw[oM h.d hb hr,SF];constructor
   ·intro g;have f1:=fk.1 g;by_cases sg:gD s j up r<0
    ·have ic:oE c s j up r:=.inr ⟨sg,g⟩;have e:=CA ic;rw[if_neg (by grind)]at e;have le:=hq r hr ic;have:gD s j up r*dQ c s j up r<=gD s j up r*d:=by
      have:=aB7 le (show 0 <= -gD s j up r by grind);grind
     grind
    ·have:=aBU (show 0<=gD s j up r by grind) hd;grind
   ·intro g;have f1:=fk.2 g;by_cases sg:0<gD s j up r
    ·have ic:oE c s j up r:=.inl ⟨sg,g⟩;have e:=CA ic;rw[if_pos sg]at e;have le:=hq r hr ic;have:=aB7 le (show 0<=gD s j up r by grind);grind
    ·have:=aBU (show 0 <= -gD s j up r by grind) hd;grind
  ·rw[xt e1 (λr hr e=>e2 ⟨r,hr,e⟩),aBX];exact fk
theorem PF(h:fm c K s)(hj:j<c.N)(hw:gt s.wh j≠1):gj s j 0 c.m=s.x:=bV (by simp) λk hk=>by
 rw[fU,h.t.x]at hk;rw[I0 h hj hw hk];have hb:=h.nb hj hw;by_cases e1:k=j
 ·subst e1;rw[rQ,aBX]
 ·by_cases e2:∃r,r<c.m∧gt s.basic r=k
  ·obtain⟨r,hr,rfl⟩:=e2;rw[oM h.d hb hr,aBH,aBX]
  ·rw[xt e1 (λr hr e=>e2 ⟨r,hr,e⟩),aBX]
theorem GY(h:fm c K s)(hj:j<c.N)(hw:gt s.wh j≠1)(hu:(up=true->dN c s j c.m<0)∧(up=false->0<dN c s j c.m)){d:Rat}(hd:0<d):obj c (gt (gj s j (yD up d) c.m))<obj c (gt s.x):=by
 rw[Xt h hj hw];cases up with
 | true =>
  have:=aB6 (show 0 < -dN c s j c.m by have:=hu.1 rfl;grind) hd;simp only[yD,if_true];grind
 | false =>
  have:=aB6 (hu.2 rfl) hd;simp only[yD,aBv,if_false];grind
def V7(c:Tc)(K:(Nat->Rat)->Prop)(H L:Nat)(s':Tb):Prop:=fm c K s'∧mr c s'∧((Rb c K s' (H+1) 0∧H+1<=4^c.N)∨Rb c K s' H (L+1))
variable {H L:Nat}
theorem O3(h:fm c K s)(hf:mr c s)(hj:j<c.N)(hw:gt s.wh j≠1)(hu:(up=true->dN c s j c.m<0∧mW (gt c.high j) (gt s.x j))∧(up=false->0<dN c s j c.m∧nC (gt c.low j) (gt s.x j)))(hr:Rb c K s H L)
  (ho:(gT c j up).has=true) (hq:∀q,q<c.m->oE c s j up q->dO c s j up<=dQ c s j up q):V7 c K H L (MZ c s j (yD up (dO c s j up)) (if up=true then 3 else 2)):=by
 have hd:0<dO c s j up:=by
  cases up with
  | true =>
   simp only[dO,gT,if_true]at ho ⊢;have:=(hu.1 rfl).2 ho;grind
  | false =>
   simp only[dO,gT,aBv,if_false]at ho ⊢;have:=(hu.2 rfl).2 ho;grind
 refine⟨h.flip hj hw ?_,K5 h hf hj hw (by grind) (λ_=>Rat.le_refl) hq,.inl ?_⟩
 ·cases up with
  | true=>exact .inr ⟨rfl,ho,by simp only[dO,gT,yD,if_true];grind⟩
  | false=>exact .inl ⟨rfl,ho,by simp only[dO,gT,yD,aBv,if_false];grind⟩
 ·exact hr.cons h (GY h hj hw ⟨λe=>(hu.1 e).1,λe=>(hu.2 e).1⟩ hd)
theorem Mv(h:fm c K s)(hf:mr c s)(hj:j<c.N)(hw:gt s.wh j≠1)(hu:(up=true->dN c s j c.m<0∧mW (gt c.high j) (gt s.x j))∧(up=false->0<dN c s j c.m∧nC (gt c.low j) (gt s.x j)))(ag:∀k,k<j->gt s.wh k≠1->¬L0 c s k)(hr:Rb c K s H L)
  {r:Nat} (ad:r<c.m) (hc:oE c s j up r) (ho:(gT c j up).has=true->dQ c s j up r<dO c s j up) (hq:∀q,q<c.m->oE c s j up q->dQ c s j up r<=dQ c s j up q∧(dQ c s j up q=dQ c s j up r->gt s.basic r<=gt s.basic q)):V7 c K H L (Be c s r j (yD up (dQ c s j up r)) (wQ s j up r)):=by
 have hb:=h.nb hj hw;have hd:=Wj h hf ad hc;have e:=CA hc;have nz:gD s j up r≠0:=by rcases hc with q | q<;>grind
 have ne:gt (gt s.R r) j≠0:=λq=>nz (by unfold gD;rw[q];cases up<;>simp);have ay:fm c K (Be c s r j (yD up (dQ c s j up r)) (wQ s j up r)):=by
  refine h.TX ad hj hw ne ?_;rw[SF,e];unfold wQ;rcases hc with⟨g1,g2⟩ | ⟨g1,g2⟩
  ·rw[if_pos g1,if_pos g1];exact .inr ⟨rfl,g2,by grind⟩
  ·rw[if_neg (by grind),if_neg (by grind)];exact .inl ⟨rfl,g2,by grind⟩
 refine⟨ay,K5 h hf hj hw hd (λg=>by have:=ho g;grind) (λq g1 g2=>(hq q g1 g2).1),?_⟩;by_cases pos:0<dQ c s j up r
 ·exact .inl (hr.cons h (GY h hj hw ⟨λe=>(hu.1 e).1,λe=>(hu.2 e).1⟩ pos))
 ·have z:dQ c s j up r=0:=by grind
  have z':yD up (dQ c s j up r)=0:=by rw[z];unfold yD;split<;>grind
  have ex:(Be c s r j (yD up (dQ c s j up r)) (wQ s j up r)).x=s.x:=by show gj s j _ c.m=_;rw[z'];exact PF h hj hw
  rw[z,aBH]at e;refine .inr (hr.next ex (p:=gt s.basic r) (e:=j) ?_);have d1:∀q,q<c.m->B5 c s j (yD up 1) (gt s.basic q)=gD s j up q:=λq ab=>by rw[oM h.d hb ab,SF,Rat.mul_one]
  have rd:jg c s j=dN c s j c.m:=by unfold jg;rw[if_neg (λ⟨q,hq,e⟩=>hb q hq e)]
  refine⟨h.d.bl r ad,hj,⟨r,ad,rfl⟩,λ⟨q,ab,g⟩=>hb q ab g,λk=>?_,jg c s,B5 c s j (yD up 1),λz hz=>rY h.d hz,λk _ hk=>if_pos hk,TJ h hj hw,λk _ hk af=>xt af λq ab g=>hk ⟨q,ab,g⟩,?_,λk hk ah=>?_,?_,λk hk ah=>?_⟩
  ·constructor
   ·rintro⟨q,ab,g⟩;rw[jh h.t.b ab]at g;split at g
    ·exact .inr g.symm
    ·rename_i e2;exact .inl ⟨⟨q,ab,g⟩,λe3=>e2 (h.d.inj r q ad ab (by rw[<-e3,g]))⟩
   ·rintro(⟨⟨q,ab,g⟩,g2⟩ | g)
    ·exact⟨q,ab,by rw[jh h.t.b ab,if_neg (λe3=>g2 (by rw[e3,g]))];exact g⟩
    ·exact⟨r,ad,by rw[jh h.t.b ad,if_pos rfl,g]⟩
  ·rw[rQ,rd];cases up with
   | true=>exact .inl ⟨rfl,hu.1 rfl⟩
   | false=>exact .inr ⟨rfl,hu.2 rfl⟩
  ·have az:k<c.N:=by omega
   have aA:gt s.wh k≠1:=λg=>ah ((h.w k az).1 g);have nb:=ag k hk aA;rw[show jg c s k=dN c s k c.m by unfold jg;rw[if_neg ah]];exact⟨λg=>tA λq=>nb (.inl ⟨g,q⟩),λg=>tP λq=>nb (.inr ⟨g,q⟩)⟩
  ·rw[d1 r ad];rcases hc with⟨g1,g2⟩ | ⟨g1,g2⟩
   ·rw[if_pos g1]at e;exact .inl ⟨g1,g2,by grind⟩
   ·rw[if_neg (by grind)]at e;exact .inr ⟨g1,g2,by grind⟩
  ·obtain⟨q,ab,rfl⟩:=ah;rw[d1 q ab];have fq:=hf _ (h.d.bl q ab);refine⟨λg g2=>?_,λg g2=>?_⟩
   ·have ic:oE c s j up q:=.inl ⟨g,g2⟩;have:=hq q ab ic;have eq:=CA ic;rw[if_pos g]at eq;have f2:=fq.2 g2;apply aBW;intro g3;have e0:gD s j up q*dQ c s j up q=0:=by grind
    have:dQ c s j up q=0:=by
     rcases aB8.1 e0 with q | q
     ·grind
     ·exact q
    grind
   ·have ic:oE c s j up q:=.inr ⟨g,g2⟩;have:=hq q ab ic;have eq:=CA ic;rw[if_neg (by grind)]at eq;have f2:=fq.1 g2;apply aBW;intro g3;have e0:gD s j up q*dQ c s j up q=0:=by grind
    have:dQ c s j up q=0:=by
     rcases aB8.1 e0 with q | q
     ·grind
     ·exact q
    grind
end
end Go.Sx
set_option maxRecDepth 10000
set_option maxHeartbeats 1000000
namespace Go.Proofs
open Go.Sv Go Go.Tb Go.Pl Go.Ut Go.Mx Go.Li Go.Dt Go.Sx
def WH(c:Tc)(s:Tb)(j:Nat)(up:Bool):Prop:=j<c.N∧gt s.wh j≠1∧((up=true->dN c s j c.m<0∧mW (gt c.high j) (gt s.x j))∧(up=false->0<dN c s j c.m∧nC (gt c.low j) (gt s.x j)))∧∀k,k<j->gt s.wh k≠1->¬L0 c s k
def EnQ(C:Ctx)(c:Tc)(s:Tb)(e:Exit)(st:St):Prop:=e=.exit 2∧∃ai,Le C st ai∧((ai=⟨60,[(0,.ptr 0 0 0),(5,.val (.int .i64 (-1)))],tH c s++eH s.R⟩∧EU c s) ∨
 ∃(j:Nat) (up:Bool),WH c s j up∧ai=⟨60,[(0,.ptr 0 0 0),(5,iv (j:Int)),(6,dr up)],tH c s++eH s.R⟩)
def anf(c:Tc)(K:(Nat->Rat)->Prop)(T:aC)(y:SV):Prop:=∃s,T=tT c s []∧s.R.length=c.m∧fm c K s∧mr c s ∧
 ((y=.bM [iv 0,dr false,dr true]∧EU c s)∨∃(j:Nat) (up:Bool),y=.bM [iv (j:Int),dr up,dr false]∧sJ c s j up)
theorem JH{c:Tc}{K:(Nat->Rat)->Prop}{s s':Tb}{H L:Nat}(h:V7 c K H L s')(hr:Rb c K s H L)(hH:H<=4^c.N):∃H' L',(fm c K s'∧mr c s'∧Rb c K s' H' L'∧H'<=4^c.N)∧(4^c.N - H')*2^c.N+(2^c.N - L')<(4^c.N - H)*2^c.N+(2^c.N - L):=by
 obtain⟨h1,h2,⟨h3,h4⟩ | h3⟩:=h
 ·refine⟨H+1,0,⟨h1,h2,h3,h4⟩,?_⟩;have:=hr.j3;rw[show 4^c.N - H=(4^c.N - (H+1))+1 by omega,Nat.add_mul];generalize (4^c.N - (H+1))*2^c.N=x;omega
 ·refine⟨H,L+1,⟨h1,h2,h3,hH⟩,?_⟩;have:=h3.j3;generalize (4^c.N - H)*2^c.N=x;omega
theorem IX(c:Tc)(K:(Nat->Rat)->Prop)(hc:qe c)(hw:BN c)(hb:HB c)(hW:HW c K)(hV:Wd 2200 c.cost)(s0:Tb)(h0:fm c K s0)(f0:mr c s0) :
  kZ Tryz.prog 124 [.ptr 0 0 0] (tT c s0 []) [] (anf c K):=by
 have h7:=hc.m7;have aH:=hc.ur;have aI:=hc.lo;have aJ:=hc.hi;refine gV Tryz.func124 rfl (by simp) (λC hC=>?_);have fx:=qm h0.t.R hC;simp only[tT,tH,tS,ayb,aAf,aBS];simp;refine aa.bB (ι:=Tb × Nat × Nat) (λ⟨s,_,_⟩=>⟨60,[(0,.ptr 0 0 0)],tH c s++eH s.R⟩)
  (λ⟨s,H,L⟩=>fm c K s∧mr c s∧Rb c K s H L∧H<=4^c.N) (λ⟨s,H,L⟩=>(4^c.N - H)*2^c.N+(2^c.N - L)) (s0,0,0) ⟨h0,f0,Rb.zero,Nat.zero_le _⟩ ?_ ?_
 ·exact⟨rfl,by simp[bY,Go.Sv.get],by simp only[tH,tS,ayb,aAf];exact ao _,.inl (by simp[tH])⟩
 ·rintro⟨s,H,L⟩ ⟨hs,hf,hr,hH⟩;have hR:=hs.t.R;have an:=hs.t.x;have ar:=hs.t.w;simp only[tH,tS,ayb,aAf];simp(disch:=omega)[];repeat refine awG ?_
  refine aa.Ol (EnQ C c s) ?_ ?_
  ·refine aa.go ?_;simp(disch:=omega)[];repeat refine awG ?_
   refine aa.bB (ι:=Nat) (λj=>⟨60,[(0,.ptr 0 0 0),(5,.val (.int .i64 (-1))),(6,dr false),(13,iv c.N),(14,iv j)],tH c s++eH s.R⟩)
    (λj=>j<=c.N∧∀k,k<j->gt s.wh k≠1->¬L0 c s k) (λj=>c.N - j) 0 ⟨by omega,λk hk=>by omega⟩ ?_ ?_
   ·exact⟨rfl,by simp[bY,Go.Sv.get],by simp only[tH,tS,ayb,aAf];exact ao _,.inl (by simp[tH])⟩
   ·rintro j ⟨hj,hq⟩;simp only[tH,tS,ayb,aAf];by_cases ac:j<c.N
    ·have lw:=cf (l:=s.wh) (i:=j) (by omega);have qx:=k9 hc hw hW hs ac;by_cases e1:gt s.wh j=1
     ·rw[e1]at lw;simp(disch:=omega)[ac,lw,ar,aD];repeat refine awG ?_
      refine⟨j+1,⟨by omega,λk hk aj=>?_⟩,by omega,Le.dE ⟨rfl,by simp(disch:=omega)[bY,Go.Sv.get],ao _,.inl rfl⟩⟩;by_cases e:k=j
      ·subst e;exact absurd e1 aj
      ·exact hq k (by omega) aj
     ·have ap:¬L0 c s j->∀k,k<j+1->gt s.wh k≠1->¬L0 c s k:=λhn k hk aj=>by
       by_cases e:k=j
       ·rw[e];exact hn
       ·exact hq k (by omega) aj
      simp(disch:=omega)[ac,lw,ar,e1];repeat refine awG ?_
      refine Ei (vI c s hc hs.t (W:=171875000) (V:=2200) (hW _ _ hs.d hs.t.Rr) hV (by omega) (by omega) ac) hR (by simp) (by simp) ?_;rintro T1 y ⟨rfl,rfl⟩;refine⟨s,rfl,hR,by simp,?_⟩;simp only[tH,tS,ayb,aAf];simp(disch:=omega)[hR,cN hR,cV hR];repeat refine awG ?_
      by_cases sp:0<dN c s j c.m
      ·refine ae (lg sp) (by simp) ?_;simp(disch:=omega)[cN hR];repeat refine awG ?_
       refine awI (lg sp) ?_;simp(disch:=omega)[];repeat refine awG ?_
       refine ek (tl:=[_]) (qL c s hc hs.t (Z:=2406280815) ac qx (ax (hw.lo j ac) (by omega)) (by omega)) hR (by simp) (by simp) ?_;rintro T1 y ⟨rfl,rfl⟩;refine⟨s,rfl,hR,by simp,?_⟩;simp only[tT,tH,tS,ayb,aAf];by_cases u:Uz (gt c.low j) (gt s.x j)=true
       ·simp(disch:=omega)[u,cN hR];repeat refine awG ?_
        refine awI (lg sp) ?_;simp(disch:=omega)[];repeat refine awG ?_
        refine⟨rfl,⟨60,[(0,.ptr 0 0 0),(5,iv (j:Int)),(6,dr false)],tH c s++eH s.R⟩,fY s hR fx (by simp[bY,Go.Sv.get]) (by simp[gK]),.inr ⟨j,false,⟨ac,e1,⟨λq=>by simp at q,λ_=>⟨sp,sr.1 u⟩⟩,hq⟩,rfl⟩⟩
       ·simp(disch:=omega)[u,aD];repeat refine awG ?_
        refine⟨j+1,⟨by omega,ap λg=>?_⟩,by omega,fY s hR fx (by simp(disch:=omega)[bY,Go.Sv.get]) (by simp[gK])⟩;rcases g with⟨g1,g2⟩ | ⟨g1,g2⟩
        ·grind
        ·exact u (sr.2 g2)
      ·by_cases sn:dN c s j c.m<0
       ·refine ae (lP sn) (by simp) ?_;simp(disch:=omega)[];repeat refine awG ?_
        refine ek (tl:=[_]) (rL c s hc hs.t (Z:=2406280815) ac qx (ax (hw.hi j ac) (by omega)) (by omega)) hR (by simp) (by simp) ?_;rintro T1 y ⟨rfl,rfl⟩;refine⟨s,rfl,hR,by simp,?_⟩;simp only[tT,tH,tS,ayb,aAf];by_cases u:Us (gt c.high j) (gt s.x j)=true
        ·simp(disch:=omega)[u,cN hR];repeat refine awG ?_
         refine awI (lP sn) ?_;simp(disch:=omega)[];repeat refine awG ?_
         refine⟨rfl,⟨60,[(0,.ptr 0 0 0),(5,iv (j:Int)),(6,dr true)],tH c s++eH s.R⟩,fY s hR fx (by simp[bY,Go.Sv.get]) (by simp[gK]),.inr ⟨j,true,⟨ac,e1,⟨λ_=>⟨sn,r5.1 u⟩,λq=>by simp at q⟩,hq⟩,rfl⟩⟩
        ·simp(disch:=omega)[u,cN hR];repeat refine awG ?_
         refine awI (lP sn) ?_;simp(disch:=omega)[aD];repeat refine awG ?_
         refine⟨j+1,⟨by omega,ap λg=>?_⟩,by omega,fY s hR fx (by simp(disch:=omega)[bY,Go.Sv.get]) (by simp[gK])⟩;rcases g with⟨g1,g2⟩ | ⟨g1,g2⟩
         ·exact u (r5.2 g2)
         ·grind
       ·have z:dN c s j c.m=0:=by grind
        refine awI (pU z) ?_;simp(disch:=omega)[cN hR];repeat refine awG ?_
        refine awI (pU z) ?_;simp(disch:=omega)[aD];repeat refine awG ?_
        refine⟨j+1,⟨by omega,ap λg=>?_⟩,by omega,fY s hR fx (by simp(disch:=omega)[bY,Go.Sv.get]) (by simp[gK])⟩;rcases g with⟨g1,g2⟩ | ⟨g1,g2⟩
        ·grind
        ·grind
    ·obtain rfl:j=c.N:=by omega
     simp(disch:=omega)[];repeat refine awG ?_
     refine⟨rfl,⟨60,[(0,.ptr 0 0 0),(5,.val (.int .i64 (-1)))],tH c s++eH s.R⟩,Le.dE ⟨rfl,by simp[bY,Go.Sv.get],ao _,.inl rfl⟩,.inl ⟨rfl,hq⟩⟩
  ·rintro e st' ⟨rfl,ai,hle,⟨rfl,aB⟩ | ⟨j,up,aE,rfl⟩⟩
   ·refine⟨_,hle,?_⟩;simp;exact⟨_,_,⟨s,rfl,hR,hs,hf,.inl ⟨rfl,aB⟩⟩,rfl,by rw[tT,aBS];exact ao _,by have:=h0.t.R;simp[tT,tH];omega,.inl (by simp[tT,tH];omega)⟩
   ·refine⟨_,hle,?_⟩;obtain⟨ac,ak,hu,ag⟩:=aE;simp only[tH,tS,ayb,aAf];simp(disch:=omega)[];repeat refine awG ?_
    refine Ei (Oq hc hw hW hs ac ak up) hR (by simp) (by simp) ?_;rintro T1 y ⟨s',rfl,au,h⟩;rcases h with⟨rfl,rfl,ho,hn⟩ | ⟨rfl,ho,hn,e⟩ | ⟨rfl,r,ad,aF,ho,hn,e⟩
    ·refine⟨s',rfl,hR,by simp,?_⟩;simp only[tH,tS,ayb,aAf];simp(disch:=omega)[];repeat refine awG ?_
     exact⟨_,_,⟨s',rfl,hR,hs,hf,.inr ⟨j,up,rfl,ac,ak,λe=>(hu.1 e).1,λe=>(hu.2 e).1,ho,hn⟩⟩,rfl,by rw[tT,aBS];exact ao _,by have:=h0.t.R;simp[tT,tH];omega,.inl (by simp[tT,tH])⟩
    ·have bt:=O3 hs hf ac ak hu hr ho hn;rw[<-e]at bt;refine⟨s',rfl,au,by simp,?_⟩;simp only[tH,tS,ayb,aAf];simp(disch:=omega)[];repeat refine awG ?_
     obtain⟨H',L',b1,b2⟩:=JH bt hr hH;refine⟨s',H',L',b1,b2,?_⟩;exact Le.dE ⟨rfl,by simp[bY,Go.Sv.get],ao _,.inl rfl⟩
    ·have bt:=Mv hs hf ac ak hu ag hr ad aF ho hn;rw[<-e]at bt;refine⟨s',rfl,au,by simp,?_⟩;simp only[tH,tS,ayb,aAf];simp(disch:=omega)[];repeat refine awG ?_
     obtain⟨H',L',b1,b2⟩:=JH bt hr hH;refine⟨s',H',L',b1,b2,?_⟩;exact Le.dE ⟨rfl,by simp[bY,Go.Sv.get],ao _,.inl rfl⟩
end Go.Proofs

