/- A text of the prover's own. -/
import Derived.Test.YtnimjdcaajmfcaaGreatDoorBUz
open Rat renaming mul_zero->avr,add_zero->avG,zero_mul->avq,mul_comm->avL,div_mul_cancel->avw,mul_pos->avM,mul_le_mul_of_nonneg_left->avN,mul_nonneg->avD,mul_eq_zero->avO
open List renaming length_eq_zero_iff->as0,mem_filter->att,length_cons->asw,cons_append->as8,nil_append->at3,append_nil->avB
open Classical renaming byContradiction->avF
open Bool renaming false_eq_true->avg
namespace Go.Sx
open Go Go.Sv Go.Pl Go.Proofs Go.Tb Go.Ut Go.Mx Go.Li Go.Dt
def obj(c:Tc)(z:Nat->Rat):Rat:=aH (λk=>gt c.cost k*z k) c.N
open Classical in
noncomputable def iA(c:Tc)(s:Tb)(k:Nat):Rat:=if ∃i,i<c.m∧gt s.basic i=k then 0 else dL c s k c.m
open Classical in
theorem vq{c:Tc}{K:(Nat->Rat)->Prop}{s:Tb}(h:u9 K c.N c.m s.basic s.R)(f:Nat->Rat):aH (λk=>if ∃i,i<c.m∧gt s.basic i=k then f k else 0) c.N=aH (λi=>f (gt s.basic i)) c.m:=by
 have e1:aH (λk=>if ∃i,i<c.m∧gt s.basic i=k then f k else 0) c.N=aH (λk=>aH (λi=>if gt s.basic i=k then f k else 0) c.m) c.N:=aQ _ λk hk=>by
  by_cases q:∃i,i<c.m∧gt s.basic i=k
  ·rw[if_pos q];obtain⟨i,hi,e⟩:=q;rw[cu (p:=i) c.m hi (λa ha am=>if_neg λe2=>am (h.inj a i ha hi (by rw[e2,e]))),if_pos e]
  ·rw[if_neg q];exact(gy c.m λi hi=>if_neg λe=>q ⟨i,hi,e⟩).symm
 rw[e1,qJ];refine aQ _ λi hi=>?_;rw[cu (p:=gt s.basic i) c.N (h.bl i hi) (λk _ hk=>if_neg λe=>hk e.symm),if_pos rfl]
theorem qc{c:Tc}{K:(Nat->Rat)->Prop}{s:Tb}(h:u9 K c.N c.m s.basic s.R){z:Nat->Rat}(hz:K z):obj c z=aH (λk=>iA c s k*z k) c.N:=by
 classical
 unfold obj;have e1:aH (λk=>gt c.cost k*z k) c.N=aH (λk=>(if ∃i,i<c.m∧gt s.basic i=k then 0 else gt c.cost k*z k)+(if ∃i,i<c.m∧gt s.basic i=k then gt c.cost k*z k else 0)) c.N:=aQ _ λk _=>by
  by_cases q:∃i,i<c.m∧gt s.basic i=k
  ·rw[if_pos q,if_pos q];grind
  ·rw[if_neg q,if_neg q];grind
 have e2:aH (λi=>gt c.cost (gt s.basic i)*z (gt s.basic i)) c.m=aH (λk=>aH (λi=>gt c.cost (gt s.basic i)*gt (gt s.R i) k) c.m*z k) c.N:=by
  have:aH (λi=>gt c.cost (gt s.basic i)*z (gt s.basic i)) c.m=aH (λi=>aH (λk=>gt c.cost (gt s.basic i)*gt (gt s.R i) k*z k) c.N) c.m:=aQ _ λi hi=>by rw[(h.sat z).1 hz i hi,<-jm];exact aQ _ λk _=>by grind
  rw[this,qJ];exact aQ _ λk _=>by rw[<-uX]
 rw[e1,js,vq h (λk=>gt c.cost k*z k),e2,<-js];refine aQ _ λk hk=>?_;unfold iA;by_cases q:∃i,i<c.m∧gt s.basic i=k
 ·rw[if_pos q,if_pos q];obtain⟨i,hi,rfl⟩:=q;rw[gy c.m (λr hr=>by rw[h.z0 r i hr hi,avr])];grind
 ·rw[if_neg q,if_neg q];unfold dL;grind
noncomputable def zV(c:Tc)(s:Tb)(j:Nat)(y:Rat)(k:Nat):Rat:=if k=j then y else aH (λi=>if gt s.basic i=k then gt (gt s.R i) j*y else 0) c.m
section
variable {c:Tc} {K:(Nat->Rat)->Prop} {s:Tb} {j:Nat} {y:Rat}
theorem qH:zV c s j y j=y:=if_pos rfl
theorem mM(h:u9 K c.N c.m s.basic s.R)(hb:∀i,i<c.m->gt s.basic i≠j){i:Nat}(hi:i<c.m):zV c s j y (gt s.basic i)=gt (gt s.R i) j*y:=by unfold zV;rw[if_neg (hb i hi),cu (p:=i) c.m hi (λa ha am=>if_neg λe=>am (h.inj a i ha hi e)),if_pos rfl]
theorem uo{k:Nat}(af:k≠j)(hb:∀i,i<c.m->gt s.basic i≠k):zV c s j y k=0:=by unfold zV;rw[if_neg af];exact gy c.m λi hi=>if_neg (hb i hi)
theorem GB(h:fo c K s)(hj:j<c.N)(hw:gt s.wh j≠1){k:Nat}(hk:k<c.N):gt (fK s j y c.m) k=gt s.x k+zV c s j y k:=by
 have hb:=h.nb hj hw;by_cases e1:k=j
 ·subst e1;rw[zx h hk hb c.m (Nat.le_refl _),qH]
 ·by_cases e2:∃r,r<c.m∧gt s.basic r=k
  ·obtain⟨r,hr,rfl⟩:=e2;rw[lq h hj hb hr c.m (Nat.le_refl _),if_pos hr,mM h.d hb hr]
  ·rw[lM h hk e1 (λr hr e=>e2 ⟨r,hr,e⟩) c.m (Nat.le_refl _),uo e1 (λr hr e=>e2 ⟨r,hr,e⟩),avG]
theorem Rl(h:fo c K s)(hj:j<c.N)(hw:gt s.wh j≠1):K (zV c s j y):=(h.d.sat _).2 λr hr=>by
 have hb:=h.nb hj hw;rw[mM h.d hb hr,cu (p:=j) c.N hj (λk hk af=>?_),qH];by_cases e2:∃q,q<c.m∧gt s.basic q=k
 ·obtain⟨q,hq,rfl⟩:=e2;rw[h.d.z0 r q hr hq,avq]
 ·rw[uo af (λq hq e=>e2 ⟨q,hq,e⟩),avr]
theorem S1(h:fo c K s)(hj:j<c.N)(hw:gt s.wh j≠1):obj c (gt (fK s j y c.m))=obj c (gt s.x)+dL c s j c.m*y:=by
 have hb:=h.nb hj hw;have e1:obj c (gt (fK s j y c.m))=obj c (gt s.x)+obj c (zV c s j y):=by unfold obj;rw[<-js];exact aQ _ λk hk=>by rw[GB h hj hw hk];grind
 rw[e1,qc h.d (Rl h hj hw),cu (p:=j) c.N hj (λk hk af=>?_),qH]
 ·unfold iA;rw[if_neg (λ⟨q,hq,e⟩=>hb q hq e)]
 ·by_cases e2:∃q,q<c.m∧gt s.basic q=k
  ·unfold iA;rw[if_pos e2,avq]
  ·rw[uo af (λq hq e=>e2 ⟨q,hq,e⟩),avr]
end
theorem ahL{c:Tc}{K:(Nat->Rat)->Prop}{a b:Tb}(ha:fo c K a)(hb:fo c K b)(e:a.wh=b.wh):∀k,k<c.N->gt a.x k=gt b.x k:=by
 have nb:∀k,k<c.N->gt a.wh k≠1->gt a.x k=gt b.x k:=λk hk hw=>by rw[ha.xn k hk hw,hb.xn k hk (by rw[<-e];exact hw),e]
 intro k hk;by_cases hw:gt a.wh k=1
 ·obtain⟨r,hr,rfl⟩:=(ha.w k hk).1 hw;rw[ha.xb r hr,(ha.d.sat _).1 hb.kx r hr];refine aQ _ λq hq=>?_;by_cases ap:gt a.wh q=1
  ·obtain⟨i,hi,rfl⟩:=(ha.w q hq).1 ap;rw[ha.d.z0 r i hr hi,avq,avq]
  ·rw[nb q hq ap]
 ·exact nb k hk hw
theorem LL:∀(N:Nat) (l:List (List Int)),l.Nodup->(∀x,x∈l->x.length=N∧∀y,y∈x->y=0∨y=1∨y=2∨y=3)->l.length<=4^N
 | 0,l,hn,h=>by
  match l,hn,h with
  | [],_,_=>simp
  | [x],_,_=>simp
  | x::y::l,hn,h =>
   have h1:=as0.1 (h x (by simp)).1;have h2:=as0.1 (h y (by simp)).1;rw[h1,h2]at hn;simp at hn
 | N+1,l,hn,h=>by
  have part:∀v:Int,(l.filter λx=>x.head?==some v).length<=4^N:=λv=>by
   have:=LL N ((l.filter λx=>x.head?==some v).map List.tail) ?_ ?_
   ·simpa using this
   ·have hf:(l.filter λx=>x.head?==some v).Nodup:=hn.filter _;rw[List.Nodup,List.pairwise_map];refine List.Pairwise.imp_of_mem (λ{a b} ha hb av=>?_) hf;intro e;have h1:=(att.1 ha).2;have h2:=(att.1 hb).2
    match a,b,h1,h2,e with
    | [],_,h1,_,_=>simp at h1
    | _::_,[],_,h2,_=>simp at h2
    | x::a,y::b,h1,h2,e =>
     simp at h1 h2 e;exact av (by rw[h1,h2,e])
   ·intro x hx;obtain⟨y,hy,rfl⟩:=List.mem_map.1 hx;obtain⟨g1,g2⟩:=h y (att.1 hy).1;exact⟨by rw[List.length_tail,g1];rfl,λz hz=>g2 z (List.mem_of_mem_tail hz)⟩
  have all:∀l:List (List Int),(∀x,x∈l->x.length=N+1∧∀y,y∈x->y=0∨y=1∨y=2∨y=3)->l.length=(l.filter λx=>x.head?==some 0).length+(l.filter λx=>x.head?==some 1).length+(l.filter λx=>x.head?==some 2).length+(l.filter λx=>x.head?==some 3).length:=λl=>by
   induction l with
   | nil=>intro _;rfl
   | cons x l ih =>
    intro h;have ih:=ih λy hy=>h y (by simp[hy]);obtain⟨g1,g2⟩:=h x (by simp)
    match x,g1,g2 with
    | y::x,g1,g2 =>
     rcases g2 y (by simp)with e | e | e | e<;>subst e<;>simp[]<;>omega
  have e:=all l h;have p0:=part 0;have p1:=part 1;have p2:=part 2;have p3:=part 3;rw[Nat.pow_succ];omega
end Go.Sx
namespace Go.Sx
open Go Go.Sv Go.Pl Go.Proofs Go.Tb Go.Ut Go.Mx Go.Li Go.Dt
def Jh(c:Tc)(s:Tb)(k:Nat):Prop:=(dL c s k c.m<0∧mb (gt c.high k) (gt s.x k))∨(0<dL c s k c.m∧me (gt c.low k) (gt s.x k))
def Cf(c:Tc)(s:Tb):Prop:=∀k,k<c.N->gt s.wh k≠1->¬Jh c s k
def qF(c:Tc)(s:Tb)(j:Nat)(up:Bool):Prop:=j<c.N∧gt s.wh j≠1∧(up=true->dL c s j c.m<0)∧(up=false->0<dL c s j c.m)∧(fZ c j up).has=false∧∀q,q<c.m->¬mV c s j up q
def Rb(c:Tc)(K:(Nat->Rat)->Prop)(s:Tb)(H L:Nat):Prop :=
 (∃l:List (List Int),l.Nodup∧l.length=H∧∀x,x∈l->∃a,fo c K a∧a.wh=x∧obj c (gt s.x)<obj c (gt a.x)) ∧
 ∃(S:Nat->Nat->Prop) (P E:Nat->Nat),zX (gt c.low) (gt c.high) K (gt c.cost) c.N (gt s.x) S P E c.N 0 L∧S L=λk=>∃i,i<c.m∧gt s.basic i=k
section
variable {c:Tc} {K:(Nat->Rat)->Prop} {s:Tb}
theorem Rb.zero:Rb c K s 0 0:=⟨⟨[],by simp,rfl,λx h=>by simp at h⟩,λ_=>λk=>∃i,i<c.m∧gt s.basic i=k,λ_=>0,λ_=>0,λt h1 h2=>by omega,rfl⟩
theorem Rb.kZ{H L:Nat}(h:Rb c K s H L):L<2^c.N:=by obtain⟨_,S,P,E,h,_⟩:=h;exact DU _ _ _ h
theorem Rb.cons{H L:Nat}(h:Rb c K s H L)(hs:fo c K s){s':Tb}(lt:obj c (gt s'.x)<obj c (gt s.x)):Rb c K s' (H+1) 0∧H+1<=4^c.N:=by
 obtain⟨⟨l,h1,h2,h3⟩,_⟩:=h;have aw:s.wh∉l:=λq=>by
  obtain⟨a,g1,g2,g3⟩:=h3 _ q;have e:obj c (gt a.x)=obj c (gt s.x):=by unfold obj;exact aQ _ λk hk=>by rw[ahL g1 hs g2 k hk]
  rw[e]at g3;grind
 have nd:(s.wh::l).Nodup:=List.nodup_cons.2 ⟨aw,h1⟩;have al:∀x,x∈s.wh::l->∃a,fo c K a∧a.wh=x∧obj c (gt s'.x)<obj c (gt a.x):=λx hx=>by
  rcases List.mem_cons.1 hx with rfl | hx
  ·exact⟨s,hs,rfl,lt⟩
  ·obtain⟨a,g1,g2,g3⟩:=h3 x hx;exact⟨a,g1,g2,by grind⟩
 refine⟨⟨⟨s.wh::l,nd,by rw[asw,h2],al⟩,Rb.zero.2⟩,?_⟩;have:=LL c.N (s.wh::l) nd λx hx=>by
  obtain⟨a,g1,rfl,_⟩:=al x hx;refine⟨g1.t.w,λy hy=>?_⟩;obtain⟨k,hk,rfl⟩:=List.mem_iff_getElem.1 hy;have e:a.wh[k]=gt a.wh k:=by simp[gt,hk]
  rw[e];rcases g1.f k (by rw[<-g1.t.w];exact hk)with q | q | q | q
  ·exact .inr (.inl q)
  ·exact .inr (.inr (.inl q.1))
  ·exact .inr (.inr (.inr q.1))
  ·exact .inl q.1
 rw[asw,h2]at this;exact this
theorem Rb.next{H L:Nat}(h:Rb c K s H L){s':Tb}{p e:Nat}(ex:s'.x=s.x)(st:QG (gt c.low) (gt c.high) K (gt c.cost) c.N (gt s.x) (λk=>∃i,i<c.m∧gt s.basic i=k) (λk=>∃i,i<c.m∧gt s'.basic i=k) p e):Rb c K s' H (L+1):=by
 obtain⟨h0,S,P,E,h,hS⟩:=h;refine⟨by rw[ex];exact h0,λt=>if t<=L then S t else λk=>∃i,i<c.m∧gt s'.basic i=k,λt=>if t<L then P t else p,λt=>if t<L then E t else e,λt h1 h2=>?_,if_neg (by omega)⟩;rw[ex];by_cases q:t<L
 ·have:=h t h1 (by omega);simp only[if_pos q,if_pos (show t<=L by omega),if_pos (show t+1<=L by omega)];exact this
 ·obtain rfl:t=L:=by omega
  simp only[if_neg (Nat.lt_irrefl t),if_pos (Nat.le_refl t),if_neg (show ¬t+1<=t by omega),hS];exact⟨st,st.pN,st.eN⟩
variable {j:Nat} {up:Bool}
theorem Az{q:Nat}(hc:mV c s j up q):gD s j up q*dQ c s j up q=if 0<gD s j up q then(gt c.high (gt s.basic q)).at' - gt s.x (gt s.basic q) else(gt c.low (gt s.basic q)).at' - gt s.x (gt s.basic q):=by
 unfold dQ;have ne:gD s j up q≠0:=by rcases hc with q | q<;>grind
 split
 ·rw[avL,avw ne]
 ·rw[avL,avw ne]
theorem SU(h:fo c K s)(hf:kW c s){q:Nat}(hq:q<c.m)(hc:mV c s j up q):0<=dQ c s j up q:=by
 have fb:=hf _ (h.d.bl q hq);have e:=Az hc;apply avF;intro g;have g:0 < -dQ c s j up q:=by grind
 rcases hc with⟨g1,g2⟩ | ⟨g1,g2⟩
 ·rw[if_pos g1]at e;have:=fb.2 g2;have:=avM g1 g;grind
 ·rw[if_neg (by grind)]at e;have:=fb.1 g2;have:=avM (show 0 < -gD s j up q by grind) g;grind
theorem HF(h:fo c K s)(hf:kW c s)(hj:j<c.N)(hw:gt s.wh j≠1){d:Rat}(hd:0<=d)(ho:(fZ c j up).has=true->d<=dO c s j up)(hq:∀q,q<c.m->mV c s j up q->d<=dQ c s j up q) :
  ∀k,k<c.N->tm (gt c.low k) (gt (fK s j (yD up d) c.m) k)∧ta (gt c.high k) (gt (fK s j (yD up d) c.m) k):=λk hk=>by
 have hb:=h.nb hj hw;have fk:=hf k hk;rw[GB h hj hw hk];by_cases e1:k=j
 ·subst e1;rw[qH];cases up with
  | true =>
   simp only[yD,fZ,dO,if_true]at *;exact⟨λg=>by have:=fk.1 g;grind,λg=>by have:=ho g;grind⟩
  | false =>
   simp only[yD,fZ,dO,avg,if_false]at *;exact⟨λg=>by have:=ho g;grind,λg=>by have:=fk.2 g;grind⟩
 ·by_cases e2:∃r,r<c.m∧gt s.basic r=k
  ·obtain⟨r,hr,rfl⟩:=e2;rw[mM h.d hb hr,Pq];constructor
   ·intro g;have f1:=fk.1 g;by_cases sg:gD s j up r<0
    ·have ic:mV c s j up r:=.inr ⟨sg,g⟩;have e:=Az ic;rw[if_neg (by grind)]at e;have le:=hq r hr ic;have:gD s j up r*dQ c s j up r<=gD s j up r*d:=by
      have:=avN le (show 0 <= -gD s j up r by grind);grind
     grind
    ·have:=avD (show 0<=gD s j up r by grind) hd;grind
   ·intro g;have f1:=fk.2 g;by_cases sg:0<gD s j up r
    ·have ic:mV c s j up r:=.inl ⟨sg,g⟩;have e:=Az ic;rw[if_pos sg]at e;have le:=hq r hr ic;have:=avN le (show 0<=gD s j up r by grind);grind
    ·have:=avD (show 0 <= -gD s j up r by grind) hd;grind
  ·rw[uo e1 (λr hr e=>e2 ⟨r,hr,e⟩),avG];exact fk
theorem LQ(h:fo c K s)(hj:j<c.N)(hw:gt s.wh j≠1):fK s j 0 c.m=s.x:=cO (by simp) λk hk=>by
 rw[fD,h.t.x]at hk;rw[GB h hj hw hk];have hb:=h.nb hj hw;by_cases e1:k=j
 ·subst e1;rw[qH,avG]
 ·by_cases e2:∃r,r<c.m∧gt s.basic r=k
  ·obtain⟨r,hr,rfl⟩:=e2;rw[mM h.d hb hr,avr,avG]
  ·rw[uo e1 (λr hr e=>e2 ⟨r,hr,e⟩),avG]
theorem Dx(h:fo c K s)(hj:j<c.N)(hw:gt s.wh j≠1)(hu:(up=true->dL c s j c.m<0)∧(up=false->0<dL c s j c.m)){d:Rat}(hd:0<d):obj c (gt (fK s j (yD up d) c.m))<obj c (gt s.x):=by
 rw[S1 h hj hw];cases up with
 | true =>
  have:=avM (show 0 < -dL c s j c.m by have:=hu.1 rfl;grind) hd;simp only[yD,if_true];grind
 | false =>
  have:=avM (hu.2 rfl) hd;simp only[yD,avg,if_false];grind
def S0(c:Tc)(K:(Nat->Rat)->Prop)(H L:Nat)(s':Tb):Prop:=fo c K s'∧kW c s'∧((Rb c K s' (H+1) 0∧H+1<=4^c.N)∨Rb c K s' H (L+1))
variable {H L:Nat}
theorem Lm(h:fo c K s)(hf:kW c s)(hj:j<c.N)(hw:gt s.wh j≠1)(hu:(up=true->dL c s j c.m<0∧mb (gt c.high j) (gt s.x j))∧(up=false->0<dL c s j c.m∧me (gt c.low j) (gt s.x j)))(hr:Rb c K s H L)
  (ho:(fZ c j up).has=true) (hq:∀q,q<c.m->mV c s j up q->dO c s j up<=dQ c s j up q):S0 c K H L (Km c s j (yD up (dO c s j up)) (if up=true then 3 else 2)):=by
 have hd:0<dO c s j up:=by
  cases up with
  | true =>
   simp only[dO,fZ,if_true]at ho ⊢;have:=(hu.1 rfl).2 ho;grind
  | false =>
   simp only[dO,fZ,avg,if_false]at ho ⊢;have:=(hu.2 rfl).2 ho;grind
 refine⟨h.flip hj hw ?_,HF h hf hj hw (by grind) (λ_=>Rat.le_refl) hq,.inl ?_⟩
 ·cases up with
  | true=>exact .inr ⟨rfl,ho,by simp only[dO,fZ,yD,if_true];grind⟩
  | false=>exact .inl ⟨rfl,ho,by simp only[dO,fZ,yD,avg,if_false];grind⟩
 ·exact hr.cons h (Dx h hj hw ⟨λe=>(hu.1 e).1,λe=>(hu.2 e).1⟩ hd)
theorem Kg(h:fo c K s)(hf:kW c s)(hj:j<c.N)(hw:gt s.wh j≠1)(hu:(up=true->dL c s j c.m<0∧mb (gt c.high j) (gt s.x j))∧(up=false->0<dL c s j c.m∧me (gt c.low j) (gt s.x j)))(ag:∀k,k<j->gt s.wh k≠1->¬Jh c s k)(hr:Rb c K s H L)
  {r:Nat} (ad:r<c.m) (hc:mV c s j up r) (ho:(fZ c j up).has=true->dQ c s j up r<dO c s j up) (hq:∀q,q<c.m->mV c s j up q->dQ c s j up r<=dQ c s j up q∧(dQ c s j up q=dQ c s j up r->gt s.basic r<=gt s.basic q)):S0 c K H L (yV c s r j (yD up (dQ c s j up r)) (wQ s j up r)):=by
 have hb:=h.nb hj hw;have hd:=SU h hf ad hc;have e:=Az hc;have nz:gD s j up r≠0:=by rcases hc with q | q<;>grind
 have ne:gt (gt s.R r) j≠0:=λq=>nz (by unfold gD;rw[q];cases up<;>simp);have ax:fo c K (yV c s r j (yD up (dQ c s j up r)) (wQ s j up r)):=by
  refine h.RD ad hj hw ne ?_;rw[Pq,e];unfold wQ;rcases hc with⟨g1,g2⟩ | ⟨g1,g2⟩
  ·rw[if_pos g1,if_pos g1];exact .inr ⟨rfl,g2,by grind⟩
  ·rw[if_neg (by grind),if_neg (by grind)];exact .inl ⟨rfl,g2,by grind⟩
 refine⟨ax,HF h hf hj hw hd (λg=>by have:=ho g;grind) (λq g1 g2=>(hq q g1 g2).1),?_⟩;by_cases pos:0<dQ c s j up r
 ·exact .inl (hr.cons h (Dx h hj hw ⟨λe=>(hu.1 e).1,λe=>(hu.2 e).1⟩ pos))
 ·have z:dQ c s j up r=0:=by grind
  have z':yD up (dQ c s j up r)=0:=by rw[z];unfold yD;split<;>grind
  have ex:(yV c s r j (yD up (dQ c s j up r)) (wQ s j up r)).x=s.x:=by show fK s j _ c.m=_;rw[z'];exact LQ h hj hw
  rw[z,avr]at e;refine .inr (hr.next ex (p:=gt s.basic r) (e:=j) ?_);have d1:∀q,q<c.m->zV c s j (yD up 1) (gt s.basic q)=gD s j up q:=λq ab=>by rw[mM h.d hb ab,Pq,Rat.mul_one]
  have rd:iA c s j=dL c s j c.m:=by unfold iA;rw[if_neg (λ⟨q,hq,e⟩=>hb q hq e)]
  refine⟨h.d.bl r ad,hj,⟨r,ad,rfl⟩,λ⟨q,ab,g⟩=>hb q ab g,λk=>?_,iA c s,zV c s j (yD up 1),λz hz=>qc h.d hz,λk _ hk=>if_pos hk,Rl h hj hw,λk _ hk af=>uo af λq ab g=>hk ⟨q,ab,g⟩,?_,λk hk ah=>?_,?_,λk hk ah=>?_⟩
  ·constructor
   ·rintro⟨q,ab,g⟩;rw[iy h.t.b ab]at g;split at g
    ·exact .inr g.symm
    ·rename_i e2;exact .inl ⟨⟨q,ab,g⟩,λe3=>e2 (h.d.inj r q ad ab (by rw[<-e3,g]))⟩
   ·rintro(⟨⟨q,ab,g⟩,g2⟩ | g)
    ·exact⟨q,ab,by rw[iy h.t.b ab,if_neg (λe3=>g2 (by rw[e3,g]))];exact g⟩
    ·exact⟨r,ad,by rw[iy h.t.b ad,if_pos rfl,g]⟩
  ·rw[qH,rd];cases up with
   | true=>exact .inl ⟨rfl,hu.1 rfl⟩
   | false=>exact .inr ⟨rfl,hu.2 rfl⟩
  ·have az:k<c.N:=by omega
   have aA:gt s.wh k≠1:=λg=>ah ((h.w k az).1 g);have nb:=ag k hk aA;rw[show iA c s k=dL c s k c.m by unfold iA;rw[if_neg ah]];exact⟨λg=>rP λq=>nb (.inl ⟨g,q⟩),λg=>r6 λq=>nb (.inr ⟨g,q⟩)⟩
  ·rw[d1 r ad];rcases hc with⟨g1,g2⟩ | ⟨g1,g2⟩
   ·rw[if_pos g1]at e;exact .inl ⟨g1,g2,by grind⟩
   ·rw[if_neg (by grind)]at e;exact .inr ⟨g1,g2,by grind⟩
  ·obtain⟨q,ab,rfl⟩:=ah;rw[d1 q ab];have fq:=hf _ (h.d.bl q ab);refine⟨λg g2=>?_,λg g2=>?_⟩
   ·have ic:mV c s j up q:=.inl ⟨g,g2⟩;have:=hq q ab ic;have eq:=Az ic;rw[if_pos g]at eq;have f2:=fq.2 g2;apply avF;intro g3;have e0:gD s j up q*dQ c s j up q=0:=by grind
    have:dQ c s j up q=0:=by
     rcases avO.1 e0 with q | q
     ·grind
     ·exact q
    grind
   ·have ic:mV c s j up q:=.inr ⟨g,g2⟩;have:=hq q ab ic;have eq:=Az ic;rw[if_neg (by grind)]at eq;have f2:=fq.1 g2;apply avF;intro g3;have e0:gD s j up q*dQ c s j up q=0:=by grind
    have:dQ c s j up q=0:=by
     rcases avO.1 e0 with q | q
     ·grind
     ·exact q
    grind
end
end Go.Sx
set_option maxRecDepth 10000
set_option maxHeartbeats 1000000
namespace Go.Proofs
open Go.Sv Go Go.Tb Go.Pl Go.Ut Go.Mx Go.Li Go.Dt Go.Sx
def Se(c:Tc)(s:Tb)(j:Nat)(up:Bool):Prop:=j<c.N∧gt s.wh j≠1∧((up=true->dL c s j c.m<0∧mb (gt c.high j) (gt s.x j))∧(up=false->0<dL c s j c.m∧me (gt c.low j) (gt s.x j)))∧∀k,k<j->gt s.wh k≠1->¬Jh c s k
def EnQ(C:Ctx)(c:Tc)(s:Tb)(e:Exit)(st:St):Prop:=e=.exit 2∧∃ai,Le C st ai∧((ai=⟨60,[(0,.ptr 0 0 0),(5,.val (.int .i64 (-1)))],tH c s++ey s.R⟩∧Cf c s) ∨
 ∃(j:Nat) (up:Bool),Se c s j up∧ai=⟨60,[(0,.ptr 0 0 0),(5,iv (j:Int)),(6,cX up)],tH c s++ey s.R⟩)
def ag9(c:Tc)(K:(Nat->Rat)->Prop)(T:aD)(y:SV):Prop:=∃s,T=tT c s []∧s.R.length=c.m∧fo c K s∧kW c s ∧
 ((y=.bP [iv 0,cX false,cX true]∧Cf c s)∨∃(j:Nat) (up:Bool),y=.bP [iv (j:Int),cX up,cX false]∧qF c s j up)
theorem HQ{c:Tc}{K:(Nat->Rat)->Prop}{s s':Tb}{H L:Nat}(h:S0 c K H L s')(hr:Rb c K s H L)(hH:H<=4^c.N):∃H' L',(fo c K s'∧kW c s'∧Rb c K s' H' L'∧H'<=4^c.N)∧(4^c.N - H')*2^c.N+(2^c.N - L')<(4^c.N - H)*2^c.N+(2^c.N - L):=by
 obtain⟨h1,h2,⟨h3,h4⟩ | h3⟩:=h
 ·refine⟨H+1,0,⟨h1,h2,h3,h4⟩,?_⟩;have:=hr.kZ;rw[show 4^c.N - H=(4^c.N - (H+1))+1 by omega,Nat.add_mul];generalize (4^c.N - (H+1))*2^c.N=x;omega
 ·refine⟨H,L+1,⟨h1,h2,h3,hH⟩,?_⟩;have:=h3.kZ;generalize (4^c.N - H)*2^c.N=x;omega
theorem Gk(c:Tc)(K:(Nat->Rat)->Prop)(hc:oR c)(hw:zG c)(hb:HB c)(hW:HW c K)(hV:Wd 2200 c.cost)(s0:Tb)(h0:fo c K s0)(f0:kW c s0) :
  kv Tryz.prog 124 [.ptr 0 0 0] (tT c s0 []) [] (ag9 c K):=by
 have h7:=hc.m7;have aF:=hc.sq;have aG:=hc.lo;have aI:=hc.hi;refine gu Tryz.func124 rfl (by simp) (λC hC=>?_);have fx:=oJ h0.t.R hC;simp only[tT,tH,tS,as8,at3,avB];simp;refine aa.bM (ι:=Tb × Nat × Nat) (λ⟨s,_,_⟩=>⟨60,[(0,.ptr 0 0 0)],tH c s++ey s.R⟩)
  (λ⟨s,H,L⟩=>fo c K s∧kW c s∧Rb c K s H L∧H<=4^c.N) (λ⟨s,H,L⟩=>(4^c.N - H)*2^c.N+(2^c.N - L)) (s0,0,0) ⟨h0,f0,Rb.zero,Nat.zero_le _⟩ ?_ ?_
 ·exact⟨rfl,by simp[bU,Go.Sv.get],by simp only[tH,tS,as8,at3];exact aq _,.inl (by simp[tH])⟩
 ·rintro⟨s,H,L⟩ ⟨hs,hf,hr,hH⟩;have hR:=hs.t.R;have an:=hs.t.x;have ar:=hs.t.w;simp only[tH,tS,as8,at3];simp(disch:=omega)[];repeat refine asi ?_
  refine aa.LS (EnQ C c s) ?_ ?_
  ·refine aa.go ?_;simp(disch:=omega)[];repeat refine asi ?_
   refine aa.bM (ι:=Nat) (λj=>⟨60,[(0,.ptr 0 0 0),(5,.val (.int .i64 (-1))),(6,cX false),(13,iv c.N),(14,iv j)],tH c s++ey s.R⟩)
    (λj=>j<=c.N∧∀k,k<j->gt s.wh k≠1->¬Jh c s k) (λj=>c.N - j) 0 ⟨by omega,λk hk=>by omega⟩ ?_ ?_
   ·exact⟨rfl,by simp[bU,Go.Sv.get],by simp only[tH,tS,as8,at3];exact aq _,.inl (by simp[tH])⟩
   ·rintro j ⟨hj,hq⟩;simp only[tH,tS,as8,at3];by_cases ac:j<c.N
    ·have lw:=cf (l:=s.wh) (i:=j) (by omega);have qx:=kn hc hw hW hs ac;by_cases e1:gt s.wh j=1
     ·rw[e1]at lw;simp(disch:=omega)[ac,lw,ar,aK];repeat refine asi ?_
      refine⟨j+1,⟨by omega,λk hk aj=>?_⟩,by omega,Le.fm ⟨rfl,by simp(disch:=omega)[bU,Go.Sv.get],aq _,.inl rfl⟩⟩;by_cases e:k=j
      ·subst e;exact absurd e1 aj
      ·exact hq k (by omega) aj
     ·have ao:¬Jh c s j->∀k,k<j+1->gt s.wh k≠1->¬Jh c s k:=λhn k hk aj=>by
       by_cases e:k=j
       ·rw[e];exact hn
       ·exact hq k (by omega) aj
      simp(disch:=omega)[ac,lw,ar,e1];repeat refine asi ?_
      refine Bn (tz c s hc hs.t (W:=171875000) (V:=2200) (hW _ _ hs.d hs.t.Rr) hV (by omega) (by omega) ac) hR (by simp) (by simp) ?_;rintro T1 y ⟨rfl,rfl⟩;refine⟨s,rfl,hR,by simp,?_⟩;simp only[tH,tS,as8,at3];simp(disch:=omega)[hR,cE hR,cP hR];repeat refine asi ?_
      by_cases sp:0<dL c s j c.m
      ·refine ae (kB sp) (by simp) ?_;simp(disch:=omega)[cE hR];repeat refine asi ?_
       refine asl (kB sp) ?_;simp(disch:=omega)[];repeat refine asi ?_
       refine dS (tl:=[_]) (pK c s hc hs.t (Z:=2406280815) ac qx (ay (hw.lo j ac) (by omega)) (by omega)) hR (by simp) (by simp) ?_;rintro T1 y ⟨rfl,rfl⟩;refine⟨s,rfl,hR,by simp,?_⟩;simp only[tT,tH,tS,as8,at3];by_cases u:Qx (gt c.low j) (gt s.x j)=true
       ·simp(disch:=omega)[u,cE hR];repeat refine asi ?_
        refine asl (kB sp) ?_;simp(disch:=omega)[];repeat refine asi ?_
        refine⟨rfl,⟨60,[(0,.ptr 0 0 0),(5,iv (j:Int)),(6,cX false)],tH c s++ey s.R⟩,fE s hR fx (by simp[bU,Go.Sv.get]) (by simp[gz]),.inr ⟨j,false,⟨ac,e1,⟨λq=>by simp at q,λ_=>⟨sp,qN.1 u⟩⟩,hq⟩,rfl⟩⟩
       ·simp(disch:=omega)[u,aK];repeat refine asi ?_
        refine⟨j+1,⟨by omega,ao λg=>?_⟩,by omega,fE s hR fx (by simp(disch:=omega)[bU,Go.Sv.get]) (by simp[gz])⟩;rcases g with⟨g1,g2⟩ | ⟨g1,g2⟩
        ·grind
        ·exact u (qN.2 g2)
      ·by_cases sn:dL c s j c.m<0
       ·refine ae (kI sn) (by simp) ?_;simp(disch:=omega)[];repeat refine asi ?_
        refine dS (tl:=[_]) (pf c s hc hs.t (Z:=2406280815) ac qx (ay (hw.hi j ac) (by omega)) (by omega)) hR (by simp) (by simp) ?_;rintro T1 y ⟨rfl,rfl⟩;refine⟨s,rfl,hR,by simp,?_⟩;simp only[tT,tH,tS,as8,at3];by_cases u:Rx (gt c.high j) (gt s.x j)=true
        ·simp(disch:=omega)[u,cE hR];repeat refine asi ?_
         refine asl (kI sn) ?_;simp(disch:=omega)[];repeat refine asi ?_
         refine⟨rfl,⟨60,[(0,.ptr 0 0 0),(5,iv (j:Int)),(6,cX true)],tH c s++ey s.R⟩,fE s hR fx (by simp[bU,Go.Sv.get]) (by simp[gz]),.inr ⟨j,true,⟨ac,e1,⟨λ_=>⟨sn,qy.1 u⟩,λq=>by simp at q⟩,hq⟩,rfl⟩⟩
        ·simp(disch:=omega)[u,cE hR];repeat refine asi ?_
         refine asl (kI sn) ?_;simp(disch:=omega)[aK];repeat refine asi ?_
         refine⟨j+1,⟨by omega,ao λg=>?_⟩,by omega,fE s hR fx (by simp(disch:=omega)[bU,Go.Sv.get]) (by simp[gz])⟩;rcases g with⟨g1,g2⟩ | ⟨g1,g2⟩
         ·exact u (qy.2 g2)
         ·grind
       ·have z:dL c s j c.m=0:=by grind
        refine asl (oH z) ?_;simp(disch:=omega)[cE hR];repeat refine asi ?_
        refine asl (oH z) ?_;simp(disch:=omega)[aK];repeat refine asi ?_
        refine⟨j+1,⟨by omega,ao λg=>?_⟩,by omega,fE s hR fx (by simp(disch:=omega)[bU,Go.Sv.get]) (by simp[gz])⟩;rcases g with⟨g1,g2⟩ | ⟨g1,g2⟩
        ·grind
        ·grind
    ·obtain rfl:j=c.N:=by omega
     simp(disch:=omega)[];repeat refine asi ?_
     refine⟨rfl,⟨60,[(0,.ptr 0 0 0),(5,.val (.int .i64 (-1)))],tH c s++ey s.R⟩,Le.fm ⟨rfl,by simp[bU,Go.Sv.get],aq _,.inl rfl⟩,.inl ⟨rfl,hq⟩⟩
  ·rintro e st' ⟨rfl,ai,hle,⟨rfl,aB⟩ | ⟨j,up,aC,rfl⟩⟩
   ·refine⟨_,hle,?_⟩;simp;exact⟨_,_,⟨s,rfl,hR,hs,hf,.inl ⟨rfl,aB⟩⟩,rfl,by rw[tT,avB];exact aq _,by have:=h0.t.R;simp[tT,tH];omega,.inl (by simp[tT,tH];omega)⟩
   ·refine⟨_,hle,?_⟩;obtain⟨ac,ak,hu,ag⟩:=aC;simp only[tH,tS,as8,at3];simp(disch:=omega)[];repeat refine asi ?_
    refine Bn (M8 hc hw hW hs ac ak up) hR (by simp) (by simp) ?_;rintro T1 y ⟨s',rfl,au,h⟩;rcases h with⟨rfl,rfl,ho,hn⟩ | ⟨rfl,ho,hn,e⟩ | ⟨rfl,r,ad,aE,ho,hn,e⟩
    ·refine⟨s',rfl,hR,by simp,?_⟩;simp only[tH,tS,as8,at3];simp(disch:=omega)[];repeat refine asi ?_
     exact⟨_,_,⟨s',rfl,hR,hs,hf,.inr ⟨j,up,rfl,ac,ak,λe=>(hu.1 e).1,λe=>(hu.2 e).1,ho,hn⟩⟩,rfl,by rw[tT,avB];exact aq _,by have:=h0.t.R;simp[tT,tH];omega,.inl (by simp[tT,tH])⟩
    ·have bt:=Lm hs hf ac ak hu hr ho hn;rw[<-e]at bt;refine⟨s',rfl,au,by simp,?_⟩;simp only[tH,tS,as8,at3];simp(disch:=omega)[];repeat refine asi ?_
     obtain⟨H',L',b1,b2⟩:=HQ bt hr hH;refine⟨s',H',L',b1,b2,?_⟩;exact Le.fm ⟨rfl,by simp[bU,Go.Sv.get],aq _,.inl rfl⟩
    ·have bt:=Kg hs hf ac ak hu ag hr ad aE ho hn;rw[<-e]at bt;refine⟨s',rfl,au,by simp,?_⟩;simp only[tH,tS,as8,at3];simp(disch:=omega)[];repeat refine asi ?_
     obtain⟨H',L',b1,b2⟩:=HQ bt hr hH;refine⟨s',H',L',b1,b2,?_⟩;exact Le.fm ⟨rfl,by simp[bU,Go.Sv.get],aq _,.inl rfl⟩
end Go.Proofs

