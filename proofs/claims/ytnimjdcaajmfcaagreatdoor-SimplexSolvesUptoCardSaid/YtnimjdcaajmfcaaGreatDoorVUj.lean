/- A text of the prover's own. -/
import Derived.Test.YtnimjdcaajmfcaaGreatDoorVTd
open List renaming length_set->aBI
open Rat renaming zero_mul->aBG,add_zero->aBX,le_refl->aBY
open Nat renaming le_refl->axq
namespace Go.Sx
open Go Go.Sv Go.Pl Go.Proofs Go.Tb Go.Ut Go.Mx Go.Li Go.Dt
def gj(s:Tb)(j:Nat)(y:Rat):Nat->List Rat
 | 0=>s.x.set j (gt s.x j+y)
 | i+1=>(gj s j y i).set (gt s.basic i) (gt (gj s j y i) (gt s.basic i)+gt (gt s.R i) j*y)
@[simp] theorem fU(s:Tb)(j:Nat)(y:Rat):∀i,(gj s j y i).length=s.x.length
 | 0=>by simp[gj]
 | i+1=>by simp only[gj,aBI];exact fU s j y i
theorem Ns{s:Tb}{j i:Nat}{y:Rat}(hb:gt s.basic i<s.x.length)(h:gt (gt s.R i) j=0):gj s j y (i+1)=gj s j y i:=by
 simp only[gj];rw[h,aBG,aBX];refine bV (by simp) λk hk=>?_;rw[bE (by simpa using hk)];split
 ·rename_i e;rw[e]
 ·rfl
structure fm(c:Tc)(K:(Nat->Rat)->Prop)(s:Tb):Prop where
 t:wg c s
 d:xH K c.N c.m s.basic s.R
 r:xM c s
 w:∀k,k<c.N->(gt s.wh k=1↔∃i,i<c.m∧gt s.basic i=k)
 f:∀k,k<c.N->fit c s.wh k
 xn:∀k,k<c.N->gt s.wh k≠1->gt s.x k=xw c s.wh k
 xb:∀r,r<c.m->gt s.x (gt s.basic r)=aG (λk=>gt (gt s.R r) k*gt s.x k) c.N
def HW(c:Tc)(K:(Nat->Rat)->Prop):Prop:=∀b R,xH K c.N c.m b R->(∀i,i<c.m->(gt R i).length=c.N)->∀i,i<c.m->Wd 171875000 (gt R i)
def HB(c:Tc):Prop:=∀k,k<c.N->(gt c.low k).has=true->(gt c.high k).has=true->(gt c.low k).at'<=(gt c.high k).at'
theorem fm.kx{c:Tc}{K:(Nat->Rat)->Prop}{s:Tb}(h:fm c K s):K (gt s.x):=(h.d.sat _).2 h.xb
theorem fm.nb{c:Tc}{K:(Nat->Rat)->Prop}{s:Tb}(h:fm c K s){k:Nat}(hk:k<c.N)(hw:gt s.wh k≠1):∀i,i<c.m->gt s.basic i≠k:=λi hi e=>hw ((h.w k hk).2 ⟨i,hi,e⟩)
theorem fm.Zi{c:Tc}{K:(Nat->Rat)->Prop}{s:Tb}(h:fm c K s)(hb:HB c){k:Nat}(hk:k<c.N)(hw:gt s.wh k≠1):vG (gt c.low k) (gt s.x k)∧uy (gt c.high k) (gt s.x k):=by
 rw[h.xn k hk hw];rcases h.f k hk with q | ⟨q,r⟩ | ⟨q,r⟩ | ⟨q,r,t⟩
 ·exact absurd q hw
 ·rw[show xw c s.wh k=(gt c.low k).at' from if_pos q];exact⟨λ_=>aBY,λg=>hb k hk r g⟩
 ·rw[show xw c s.wh k=(gt c.high k).at' by unfold xw;rw[if_neg (by omega),if_pos q]];exact⟨λg=>hb k hk g r,λ_=>aBY⟩
 ·exact⟨λg=>by rw[r]at g;exact absurd g (by simp),λg=>by rw[t]at g;exact absurd g (by simp)⟩
section
variable {c:Tc} {K:(Nat->Rat)->Prop} {s:Tb} {j:Nat} {y:Rat}
theorem l5(h:fm c K s){k:Nat}(hk:k<c.N)(ah:k≠j)(hb:∀i,i<c.m->gt s.basic i≠k):∀i,i<=c.m->gt (gj s j y i) k=gt s.x k
 | 0,_=>by simp only[gj];rw[bE (by rw[h.t.x];exact hk),if_neg (λe=>ah e.symm)]
 | i+1,hi=>by simp only[gj];rw[bE (by rw[fU,h.t.x];exact hk),if_neg (hb i (by omega))];exact l5 h hk ah hb i (by omega)
theorem Bq(h:fm c K s)(hj:j<c.N)(hb:∀i,i<c.m->gt s.basic i≠j):∀i,i<=c.m->gt (gj s j y i) j=gt s.x j+y
 | 0,_=>by simp only[gj];rw[bE (by rw[h.t.x];exact hj),if_pos rfl]
 | i+1,hi=>by simp only[gj];rw[bE (by rw[fU,h.t.x];exact hj),if_neg (hb i (by omega))];exact Bq h hj hb i (by omega)
theorem mu(h:fm c K s)(hj:j<c.N)(hb:∀i,i<c.m->gt s.basic i≠j){r:Nat}(hr:r<c.m):∀i,i<=c.m->gt (gj s j y i) (gt s.basic r)=gt s.x (gt s.basic r)+if r<i then gt (gt s.R r) j*y else 0
 | 0,_=>by simp only[gj];rw[bE (by rw[h.t.x];exact h.d.bl r hr),if_neg (λe=>hb r hr e.symm),if_neg (by omega),aBX]
 | i+1,hi=>by
  simp only[gj];rw[bE (by rw[fU,h.t.x];exact h.d.bl r hr)];by_cases e:i=r
  ·subst e;rw[if_pos rfl,mu h hj hb hr i (by omega),if_neg (by omega),if_pos (by omega),aBX]
  ·rw[if_neg (λq=>e (h.d.inj i r (by omega) hr q)),mu h hj hb hr i (by omega)];by_cases q:r<i
   ·rw[if_pos q,if_pos (by omega)]
   ·rw[if_neg q,if_neg (by omega)]
theorem afV(h:fm c K s)(hj:j<c.N)(hw:gt s.wh j≠1):K (gt (gj s j y c.m)):=(h.d.sat _).2 λr hr=>by
 have hb:=h.nb hj hw;rw[mu h hj hb hr c.m (axq _),if_pos hr,h.xb r hr];have e:aG (λk=>gt (gt s.R r) k*gt (gj s j y c.m) k) c.N=aG (λk=>gt (gt s.R r) k*gt s.x k+if k=j then gt (gt s.R r) j*y else 0) c.N:=aO _ λk hk=>by
  by_cases e1:k=j
  ·subst e1;rw[Bq h hk hb c.m (axq _),if_pos rfl];grind
  ·rw[if_neg e1,aBX];by_cases ab:∃q,q<c.m∧gt s.basic q=k
   ·obtain⟨q,hq,rfl⟩:=ab;rw[h.d.z0 r q hr hq,aBG,aBG]
   ·rw[l5 h hk e1 (λq hq e=>ab ⟨q,hq,e⟩) c.m (axq _)]
 rw[e,jY,cA (f:=λk=>if k=j then gt (gt s.R r) j*y else 0) (p:=j) c.N hj (λk _ hk=>if_neg hk),if_pos rfl]
def Be(c:Tc)(s:Tb)(i j:Nat)(y:Rat)(W:Int):Tb :=
 { ia { s with x:=gj s j y c.m } i j with wh:=(s.wh.set j 1).set (gt s.basic i) W }
theorem jh{i k:Nat}{W:Int}(hb:s.basic.length=c.m)(hk:k<c.m):gt (Be c s i j y W).basic k=if i=k then j else gt s.basic k:=by show gt (s.basic.set i j) k=_;rw[bE (by omega)]
theorem fm.TX{i:Nat}{W:Int}(h:fm c K s)(hi:i<c.m)(hj:j<c.N)(hw:gt s.wh j≠1)(hp:gt (gt s.R i) j≠0)
  (hW:(W=2∧(gt c.low (gt s.basic i)).has=true∧gt s.x (gt s.basic i)+gt (gt s.R i) j*y=(gt c.low (gt s.basic i)).at')∨(W=3∧(gt c.high (gt s.basic i)).has=true∧gt s.x (gt s.basic i)+gt (gt s.R i) j*y=(gt c.high (gt s.basic i)).at')) :
  fm c K (Be c s i j y W):=by
 have hb:=h.nb hj hw;have ho:=h.d.bl i hi;have tx:wg c { s with x:=gj s j y c.m }:=⟨h.t.w,by show(gj s j y c.m).length=_;rw[fU];exact h.t.x,h.t.b,h.t.r,h.t.R,h.t.Rr,h.t.bb⟩;have dx:xH K c.N c.m ({ s with x:=gj s j y c.m }:Tb).basic ({ s with x:=gj s j y c.m }:Tb).R:=h.d;have d':=dx.AT tx.b tx.R tx.Rr hi hj hp;have t':=tx.AT (i:=i) hj;have r':xM c (ia { s with x:=gj s j y c.m } i j):=xM.AT (s:={ s with x:=gj s j y c.m }) h.r dx tx hi hj hp;have W1:W≠1:=by rcases hW with q | q<;>omega
 have gw:∀k,k<c.N->gt (Be c s i j y W).wh k=if gt s.basic i=k then W else if j=k then 1 else gt s.wh k:=λk hk=>by show gt ((s.wh.set j 1).set (gt s.basic i) W) k=_;rw[bE (by rw[aBI,h.t.w];exact hk),bE (by rw[h.t.w];exact hk)]
 have ae:=h.t.b;have kx:=afV (y:=y) h hj hw;refine⟨⟨by show((s.wh.set j 1).set (gt s.basic i) W).length=_;rw[aBI,aBI,h.t.w],t'.x,t'.b,t'.r,t'.R,t'.Rr,t'.bb⟩,d',r',λk hk=>?_,λk hk=>?_,λk hk ac=>?_,λr hr=>?_⟩
 ·rw[gw k hk];by_cases e1:gt s.basic i=k
  ·rw[if_pos e1];constructor
   ·intro q;exact absurd q W1
   ·rintro⟨q,hq,e⟩;rw[jh ae hq]at e;split at e
    ·exact absurd (by rw[e1,e]) (hb i hi)
    ·rename_i e2;exact absurd (h.d.inj i q hi hq (by rw[e1,e])) e2
  ·rw[if_neg e1];by_cases e2:j=k
   ·rw[if_pos e2];exact⟨λ_=>⟨i,hi,by rw[jh ae hi,if_pos rfl,e2]⟩,λ_=>rfl⟩
   ·rw[if_neg e2,h.w k hk];constructor
    ·rintro⟨q,hq,e⟩;exact⟨q,hq,by rw[jh ae hq,if_neg (λe3=>e1 (by rw[e3];exact e))];exact e⟩
    ·rintro⟨q,hq,e⟩;rw[jh ae hq]at e;split at e
     ·exact absurd e e2
     ·exact⟨q,hq,e⟩
 ·unfold fit;rw[gw k hk];by_cases e1:gt s.basic i=k
  ·rw[if_pos e1,<-e1];rcases hW with q | q
   ·exact .inr (.inl ⟨q.1,q.2.1⟩)
   ·exact .inr (.inr (.inl ⟨q.1,q.2.1⟩))
  ·rw[if_neg e1];by_cases e2:j=k
   ·rw[if_pos e2];exact .inl rfl
   ·rw[if_neg e2];exact h.f k hk
 ·rw[gw k hk]at ac;show gt (gj s j y c.m) k=_;unfold xw;rw[gw k hk];by_cases e1:gt s.basic i=k
  ·subst e1;rw[mu h hj hb hi c.m (axq _),if_pos hi];simp only[if_true];rcases hW with q | q
   ·rw[q.2.2,if_pos q.1]
   ·rw[q.2.2,if_neg (by omega),if_pos q.1]
  ·rw[if_neg e1]at ac ⊢;by_cases e2:j=k
   ·rw[if_pos e2]at ac;exact absurd rfl ac
   ·rw[if_neg e2]at ac ⊢;rw[l5 h hk (λe=>e2 e.symm) (h.nb hk ac) c.m (axq _)];exact h.xn k hk ac
 ·exact(d'.sat _).1 kx r hr
def MZ(c:Tc)(s:Tb)(j:Nat)(y:Rat)(W:Int):Tb:={ s with x:=gj s j y c.m,wh:=s.wh.set j W }
theorem fm.flip{W:Int}(h:fm c K s)(hj:j<c.N)(hw:gt s.wh j≠1)
  (hW:(W=2∧(gt c.low j).has=true∧gt s.x j+y=(gt c.low j).at')∨(W=3∧(gt c.high j).has=true∧gt s.x j+y=(gt c.high j).at')):fm c K (MZ c s j y W):=by
 have hb:=h.nb hj hw;have W1:W≠1:=by rcases hW with q | q<;>omega
 have gw:∀k,k<c.N->gt (MZ c s j y W).wh k=if j=k then W else gt s.wh k:=λk hk=>by show gt (s.wh.set j W) k=_;rw[bE (by rw[h.t.w];exact hk)]
 refine⟨⟨by show(s.wh.set j W).length=_;rw[aBI,h.t.w],by show(gj s j y c.m).length=_;rw[fU];exact h.t.x,h.t.b,h.t.r,h.t.R,h.t.Rr,h.t.bb⟩,h.d,h.r,λk hk=>?_,λk hk=>?_,λk hk ac=>?_,λr hr=>(h.d.sat _).1 (afV h hj hw) r hr⟩
 ·rw[gw k hk];by_cases e:j=k
  ·subst e;rw[if_pos rfl];exact⟨λq=>absurd q W1,λ⟨q,hq,e⟩=>absurd e (hb q hq)⟩
  ·rw[if_neg e];exact h.w k hk
 ·unfold fit;rw[gw k hk];by_cases e:j=k
  ·subst e;rw[if_pos rfl];rcases hW with q | q
   ·exact .inr (.inl ⟨q.1,q.2.1⟩)
   ·exact .inr (.inr (.inl ⟨q.1,q.2.1⟩))
  ·rw[if_neg e];exact h.f k hk
 ·rw[gw k hk]at ac;show gt (gj s j y c.m) k=_;unfold xw;rw[gw k hk];by_cases e:j=k
  ·subst e;rw[Bq h hj hb c.m (axq _)];simp only[if_true];rcases hW with q | q
   ·rw[q.2.2,if_pos q.1]
   ·rw[q.2.2,if_neg (by omega),if_pos q.1]
  ·rw[if_neg e]at ac ⊢;rw[l5 h hk (λq=>e q.symm) (h.nb hk ac) c.m (axq _)];exact h.xn k hk ac
end
def Wa(c:Tc)(s:Tb):FS:=⟨gt s.x,λk=>∃i,i<c.m∧gt s.basic i=k⟩
def mr(c:Tc)(s:Tb):Prop:=∀k,k<c.N->vG (gt c.low k) (gt s.x k)∧uy (gt c.high k) (gt s.x k)
def Gj(c:Tc)(s:Tb)(i:Nat)(aa:Bool):Prop:=i<c.m ∧
 (aa=true->((gt c.low (gt s.basic i)).has=true∧gt s.x (gt s.basic i)<(gt c.low (gt s.basic i)).at')∧∀k,k<c.N->gt s.wh k≠1->(0<gt (gt s.R i) k->(gt c.high k).has=true∧(gt c.high k).at'<=gt s.x k)∧(gt (gt s.R i) k<0->(gt c.low k).has=true∧gt s.x k<=(gt c.low k).at')) ∧
 (aa=false->((gt c.high (gt s.basic i)).has=true∧(gt c.high (gt s.basic i)).at'<gt s.x (gt s.basic i))∧∀k,k<c.N->gt s.wh k≠1->(gt (gt s.R i) k<0->(gt c.high k).has=true∧(gt c.high k).at'<=gt s.x k)∧(0<gt (gt s.R i) k->(gt c.low k).has=true∧gt s.x k<=(gt c.low k).at'))
def RC(c:Tc)(K:(Nat->Rat)->Prop)(s:Tb)(L:Nat):Prop:=∃(S:Nat->FS) (P E:Nat->Nat),B6 (gt c.low) (gt c.high) K c.N S P E c.N 0 L∧S L=Wa c s
theorem RC.zero(c:Tc)(K:(Nat->Rat)->Prop)(s:Tb):RC c K s 0:=⟨λ_=>Wa c s,λ_=>0,λ_=>0,λt h1 h2=>by omega,rfl⟩
theorem RC.lt{c:Tc}{K:(Nat->Rat)->Prop}{s:Tb}{L:Nat}(h:RC c K s L):L<3^c.N:=by obtain⟨S,P,E,h,_⟩:=h;exact HE _ _ _ h
theorem RC.next{c:Tc}{K:(Nat->Rat)->Prop}{s s':Tb}{L p e:Nat}(h:RC c K s L)(st:Oy (gt c.low) (gt c.high) K c.N (Wa c s) (Wa c s') p e):RC c K s' (L+1):=by
 obtain⟨S,P,E,h,hS⟩:=h;refine⟨λt=>if t<=L then S t else Wa c s',λt=>if t<L then P t else p,λt=>if t<L then E t else e,λt h1 h2=>?_,if_neg (by omega)⟩;by_cases q:t<L
 ·have:=h t h1 (by omega);simp only[if_pos q,if_pos (show t<=L by omega),if_pos (show t+1<=L by omega)];exact this
 ·obtain rfl:t=L:=by omega
  simp only[if_neg (Nat.lt_irrefl t),if_pos (axq t),if_neg (show ¬t+1<=t by omega),hS];exact⟨st,st.pN,st.eN⟩
def Iz(c:Tc)(s:Tb)(i:Nat)(aa:Bool)(k:Nat):Prop :=
 gt (gt s.R i) k≠0∧gt s.wh k≠1∧((decide (0<gt (gt s.R i) k)=aa∧mW (gt c.high k) (gt s.x k))∨(decide (0<gt (gt s.R i) k)≠aa∧nC (gt c.low k) (gt s.x k)))
theorem tA{b:Bo}{x:Rat}(h:¬mW b x):b.has=true∧b.at'<=x:=by
 unfold mW at h;by_cases q:b.has=true
 ·refine⟨q,?_⟩;apply Classical.byContradiction;intro g;exact h λ_=>by grind
 ·exact absurd (λg=>absurd g q) h
theorem tP{b:Bo}{x:Rat}(h:¬nC b x):b.has=true∧x<=b.at':=by
 unfold nC at h;by_cases q:b.has=true
 ·refine⟨q,?_⟩;apply Classical.byContradiction;intro g;exact h λ_=>by grind
 ·exact absurd (λg=>absurd g q) h
theorem NT{c:Tc}{s:Tb}{i:Nat}{aa:Bool}(hi:i<c.m)(hv:(aa=true->(gt c.low (gt s.basic i)).has=true∧gt s.x (gt s.basic i)<(gt c.low (gt s.basic i)).at')∧(aa=false->(gt c.high (gt s.basic i)).has=true∧(gt c.high (gt s.basic i)).at'<gt s.x (gt s.basic i)))
  (h:∀k,k<c.N->¬Iz c s i aa k):Gj c s i aa:=by
 refine⟨hi,λe=>⟨hv.1 e,λk hk hw=>⟨λg=>?_,λg=>?_⟩⟩,λe=>⟨hv.2 e,λk hk hw=>⟨λg=>?_,λg=>?_⟩⟩⟩
 ·refine tA λq=>h k hk ⟨by grind,hw,.inl ⟨by rw[e];simpa using g,q⟩⟩
 ·refine tP λq=>h k hk ⟨by grind,hw,.inr ⟨by rw[e];simp;grind,q⟩⟩
 ·refine tA λq=>h k hk ⟨by grind,hw,.inl ⟨by rw[e];simp;grind,q⟩⟩
 ·refine tP λq=>h k hk ⟨by grind,hw,.inr ⟨by rw[e];simpa using g,q⟩⟩
theorem CC{c:Tc}{K:(Nat->Rat)->Prop}{s:Tb}(hb:HB c)(h:fm c K s){i e:Nat}{aa:Bool}{y:Rat}(hi:i<c.m)(he:e<c.N)
  (hv:(aa=true->(gt c.low (gt s.basic i)).has=true∧gt s.x (gt s.basic i)<(gt c.low (gt s.basic i)).at')∧(aa=false->(gt c.high (gt s.basic i)).has=true∧(gt c.high (gt s.basic i)).at'<gt s.x (gt s.basic i)))
  (ag:∀k,k<gt s.basic i->gt s.wh k=1->vG (gt c.low k) (gt s.x k)∧uy (gt c.high k) (gt s.x k)) (ad:Iz c s i aa e) (af:∀k,k<e->¬Iz c s i aa k)
  (hy:gt s.x (gt s.basic i)+gt (gt s.R i) e*y=if aa=true then(gt c.low (gt s.basic i)).at' else(gt c.high (gt s.basic i)).at') :
  fm c K (Be c s i e y (if aa=true then 2 else 3))∧Oy (gt c.low) (gt c.high) K c.N (Wa c s) (Wa c (Be c s i e y (if aa=true then 2 else 3))) (gt s.basic i) e:=by
 have ai:=ad.2.1;have aj:=h.nb he ai;have ho:=h.d.bl i hi;have st:fm c K (Be c s i e y (if aa=true then 2 else 3)):=by
  refine h.TX hi he ai ad.1 ?_;cases aa with
  | true=>exact .inl ⟨rfl,(hv.1 rfl).1,by simpa using hy⟩
  | false=>exact .inr ⟨rfl,(hv.2 rfl).1,by simpa using hy⟩
 refine⟨st,ho,he,h.kx,⟨i,hi,rfl⟩,λ⟨q,hq,g⟩=>aj q hq g,λk=>?_,λk hk ab=>h.Zi hb hk λg=>ab ((h.w k hk).1 g),λk hk ab=>ag k hk ?_,λk hk ab ak=>l5 h hk ak (λq hq g=>ab ⟨q,hq,g⟩) c.m (axq _),?_⟩
 ·show(∃q,q<c.m∧gt (Be c s i e y _).basic q=k)↔((∃q,q<c.m∧gt s.basic q=k)∧k≠gt s.basic i)∨k=e;constructor
  ·rintro⟨q,hq,g⟩;rw[jh h.t.b hq]at g;split at g
   ·exact .inr g.symm
   ·rename_i e2;exact .inl ⟨⟨q,hq,g⟩,λe3=>e2 (h.d.inj i q hi hq (by rw[<-e3,g]))⟩
  ·rintro(⟨⟨q,hq,g⟩,g2⟩ | g)
   ·exact⟨q,hq,by rw[jh h.t.b hq,if_neg (λe3=>g2 (by rw[e3,g]))];exact g⟩
   ·exact⟨i,hi,by rw[jh h.t.b hi,if_pos rfl,g]⟩
 ·obtain⟨q,hq,g⟩:=ab;exact(h.w k (by have:=h.d.bl q hq;omega)).2 ⟨q,hq,g⟩
 ·have gp:gt (gj s e y c.m) (gt s.basic i)=gt s.x (gt s.basic i)+gt (gt s.R i) e*y:=by rw[mu h he aj hi c.m (axq _),if_pos hi]
  refine⟨gt (gt s.R i),λz hz=>(h.d.sat z).1 hz i hi,λk hk ⟨q,hq,g⟩=>by rw[<-g];exact h.d.z0 i q hi hq,?_⟩;have lo:∀k,k<e->¬(∃q,q<c.m∧gt s.basic q=k)->gt s.wh k≠1:=λk hk ab g=>ab ((h.w k (by omega)).1 g);cases aa with
  | true =>
   left;refine⟨hv.1 rfl,by show gt (gj s e y c.m) _=_;rw[gp,hy];rfl,?_,λk hk ab=>?_⟩
   ·rcases ad.2.2 with⟨g1,g2⟩ | ⟨g1,g2⟩
    ·exact .inl ⟨by simpa using g1,g2⟩
    ·have:=ad.1;exact .inr ⟨by simp at g1;grind,g2⟩
   ·have hw:=lo k hk ab;exact⟨λg=>tA λq=>af k hk ⟨by grind,hw,.inl ⟨by simpa using g,q⟩⟩,λg=>tP λq=>af k hk ⟨by grind,hw,.inr ⟨by simp;grind,q⟩⟩⟩
  | false =>
   right;refine⟨hv.2 rfl,by show gt (gj s e y c.m) _=_;rw[gp,hy];rfl,?_,λk hk ab=>?_⟩
   ·rcases ad.2.2 with⟨g1,g2⟩ | ⟨g1,g2⟩
    ·have:=ad.1;exact .inl ⟨by simp at g1;grind,g2⟩
    ·exact .inr ⟨by simpa using g1,g2⟩
   ·have hw:=lo k hk ab;exact⟨λg=>tA λq=>af k hk ⟨by grind,hw,.inl ⟨by simp;grind,q⟩⟩,λg=>tP λq=>af k hk ⟨by grind,hw,.inr ⟨by simpa using g,q⟩⟩⟩
end Go.Sx

