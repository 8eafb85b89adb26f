/- A text of the prover's own. -/
import Derived.Test.YtnimjdcaajmfcaaGreatDoorVGl
import Derived.Below
open Option.some renaming injEq->awR
open Array renaming getElem?_setIfInBounds_ne->awS
open List renaming getElem?_eq_none->awT,length_append->awU,length_cons->awV,length_nil->awW
namespace Go.Sv
open Go Go.RowKit
structure cJ where
 sz:Nat
 es:List SV
 fz:Bool
abbrev aC:=List (Option cJ)
def qn(β:cu)(H:Hp)(e:cJ)(k:Nat)(w:World):Prop :=
 (β k=some none∧e.es=[]) ∨
 (∃d cs T vs,β k=some (some d)∧d.sz=e.sz∧w.heap[d.b]?=some (.cells cs T (0,0))∧cs.size=d.Jn∧ba β H e.sz e.es vs∧vs.length<=cs.size ∧
  (∀i,i<vs.length->cs[i]?=vs[i]?)∧(e.fz=true->H d.b=some cs∧SV.bF e.es=true)) ∨
 (∃d ms,β k=some (some d)∧(e.sz=0∧d.sz=1∧d.Jn=0)∧w.heap[d.b]?=some (.map ms ms.size)∧cS β H e.es ms.toList 0)
structure Ctx where
 w0:World
 H0:Hp
 X:List Nat
 b0:cu
 fx:List Nat
structure QH(H:Hp):Prop where
 at_:∀g x,gl g=some x->∃v,Den o4 H x v∧H g=some v.cells
 ne:∀t g t' g',gl g=some (.fT t g)->gl g'=some (.fT t' g')->g≠g'->H g≠H g'
theorem QH.mono{H H':Hp}(h:QH H)(hH:∀b cs,H b=some cs->H' b=some cs):QH H' where
 at_ g x hg:=by obtain⟨v,h1,h2⟩:=h.at_ g x hg;exact⟨v,h1.up (λ_ _ h=>h) hH,hH _ _ h2⟩
 ne t g t' g' h1 h2 h3 h4:=by obtain⟨v,_,h5⟩:=h.at_ g _ h1;obtain⟨v',_,h6⟩:=h.at_ g' _ h2;have:=h.ne t g t' g' h1 h2 h3;rw[hH _ _ h5,hH _ _ h6]at h4;rw[h5,h6]at this;exact this h4
structure cM(C:Ctx)(β:cu)(H:Hp)(M:aC)(w:World):Prop where
 os:w.os=C.w0.os
 tape:w.tape=C.w0.tape
 output:w.output=C.w0.output
 size:C.w0.heap.size<=w.heap.size
 frame:∀b,b<C.w0.heap.size->b∉C.X->w.heap[b]?=C.w0.heap[b]?
 ext:∀b cs,C.H0 b=some cs->H b=some cs
 new:∀b cs,H b=some cs->C.H0 b=some cs∨C.w0.heap.size<=b∨b∈C.X
 inv:∀b cs,H b=some cs->∃T z,w.heap[b]?=some (.cells cs T z)
 dF:∀k e,M[k]?=some (some e)->qn β H e k w
 own:∀k e d,M[k]?=some (some e)->β k=some (some d)->(e.fz=false->H d.b=none)∧(C.w0.heap.size<=d.b∨d.b∈C.X)
 inj:∀k k' e e' d d',M[k]?=some (some e)->M[k']?=some (some e')->β k=some (some d)->β k'=some (some d')->d.b=d'.b->k=k'
 fresh:∀k,M.length<=k->β k=none
 iK:∀k d,k∈C.fx->C.b0 k=some d->β k=some d
 fM:QH H
def get:List (Nat × SV)->Nat->Option SV
 | [],_=>none
 | (s,x)::r,t=>if s=t then some x else get r t
def jl(β:cu)(H:Hp)(n:Nat)(fr:List (Nat × SV))(a:Act):Prop :=
 (a.defers=[]∧QH H)∧a.tmps.size=n∧∀t x,get fr t=some x->∃v,a.tmps[t]?=some v∧Den β H x v
theorem jl.put{β:cu}{H:Hp}{n:Nat}{fr:List (Nat × SV)}{a:Act}(h:jl β H n fr a){t:Nat}{x:SV}{v:Value}(ht:t<n)(hx:Den β H x v) :
  jl β H n ((t,x)::fr) (a.put (some t) v):=by
 obtain⟨h1,h2,h3⟩:=h;refine⟨h1,by simp[Act.put,h2],λt' x' hg=>?_⟩;simp only[get]at hg;by_cases e:t=t'
 ·subst e;simp only[if_true,awR]at hg;subst hg;exact⟨v,by simp[Act.put,h2,ht],hx⟩
 ·rw[if_neg e]at hg;obtain⟨v',hv,hd⟩:=h3 t' x' hg;exact⟨v',by simp only[Act.put];rw[awS e];exact hv,hd⟩
def del(fr:List (Nat × SV))(t:Nat):List (Nat × SV):=fr.filter λp=>!(p.1==t)
theorem mO{fr:List (Nat × SV)}{t t':Nat}{x:SV}(h:get (del fr t) t'=some x):t'≠t∧get fr t'=some x:=by
 induction fr with
 | nil=>simp[del,get]at h
 | cons p r ih =>
  obtain⟨s,y⟩:=p;simp only[del,List.filter_cons]at h;by_cases e:s=t
  ·subst e;simp only[beq_self_eq_true,Bool.not_true,Bool.false_eq_true,if_false]at h;obtain⟨h1,h2⟩:=ih h;exact⟨h1,by simp[get,Ne.symm h1,h2]⟩
  ·have:(s==t)=false:=by simpa using e
   simp only[this,Bool.not_false,if_true,get]at h;by_cases e':s=t'
   ·subst e';simp only[if_true]at h;exact⟨e,by simp[get,h]⟩
   ·simp only[e',if_false]at h;obtain⟨h1,h2⟩:=ih h;exact⟨h1,by simp[get,e',h2]⟩
theorem jl.skip{β:cu}{H:Hp}{n:Nat}{fr:List (Nat × SV)}{a:Act}(h:jl β H n fr a)(t:Nat)(v:Value) :
  jl β H n (del fr t) (a.put (some t) v):=by
 obtain⟨h1,h2,h3⟩:=h;refine⟨h1,by simp[Act.put,h2],λt' x' hg=>?_⟩;obtain⟨e,hg⟩:=mO hg;obtain⟨v',hv,hd⟩:=h3 t' x' hg;exact⟨v',by simp only[Act.put];rw[awS (Ne.symm e)];exact hv,hd⟩
theorem jl.mono{β β':cu}{H H':Hp}{n:Nat}{fr:List (Nat × SV)}{a:Act}(h:jl β H n fr a)
  (hb:∀k d,β k=some d->β' k=some d) (hH:∀b cs,H b=some cs->H' b=some cs):jl β' H' n fr a :=
 ⟨⟨h.1.1,h.1.2.mono hH⟩,h.2.1,λt x hg=>let ⟨v,hv,hd⟩:=h.2.2 t x hg;⟨v,hv,hd.up hb hH⟩⟩
theorem jl.sub{β:cu}{H:Hp}{n:Nat}{fr fr':List (Nat × SV)}{a:Act}(h:jl β H n fr a)
  (hs:∀t x,get fr' t=some x->get fr t=some x):jl β H n fr' a :=
 ⟨h.1,h.2.1,λt x hg=>h.2.2 t x (hs t x hg)⟩
/-! ### The world turns -/
theorem heap_alloc_old{w:World}{o:Obj}{b:Nat}(h:b<w.heap.size):(w.alloc o).heap[b]?=w.heap[b]?:=Below.heap_alloc w o b h
theorem heap_alloc_new{w:World}{o:Obj}:(w.alloc o).heap[w.heap.size]?=some o:=by show(w.heap.push o)[w.heap.size]?=some o;simp
theorem iL{w:World}{b:Nat}{o:Obj}(h:w.heap[b]?=some o):b<w.heap.size:=by
 rcases Nat.lt_or_ge b w.heap.size with h' | h'
 ·exact h'
 ·rw[Array.getElem?_eq_none h']at h;cases h
def cu.eK(β:cu)(k:Nat)(x:Option Bd):cu:=λi=>if i=k then some x else β i
def Hp.eK(H:Hp)(b:Nat)(cs:Array Value):Hp:=λi=>if i=b then some cs else H i
section
variable {C:Ctx} {β:cu} {H:Hp} {M:aC} {w:World}
theorem qn.up{e:cJ}{k:Nat}{β':cu}{H':Hp}{w':World}(h:qn β H e k w)(hb:∀k d,β k=some d->β' k=some d)
  (hH:∀b cs,H b=some cs->H' b=some cs) (hw:∀d,β k=some (some d)->w'.heap[d.b]?=w.heap[d.b]?):qn β' H' e k w':=by
 rcases h with⟨h1,h2⟩ | ⟨d,cs,T,vs,h1,h2,h3,h4,h5,h6,h7,h8⟩ | ⟨d,ms,h1,h2,h3,h4⟩
 ·exact .inl ⟨hb _ _ h1,h2⟩
 ·exact .inr (.inl ⟨d,cs,T,vs,hb _ _ h1,h2,by rw[hw d h1];exact h3,h4,ba.mono hH _ _ _ (λk d _=>hb k d) h5,h6,h7,λhf=>⟨hH _ _ (h8 hf).1,(h8 hf).2⟩⟩)
 ·exact .inr (.inr ⟨d,ms,hb _ _ h1,h2,by rw[hw d h1];exact h3,cS.mono hH _ _ _ (λk d _=>hb k d) h4⟩)
theorem cM.lt(h:cM C β H M w){k:Nat}{e:cJ}{d:Bd}(hk:M[k]?=some (some e))(hd:β k=some (some d)):d.b<w.heap.size:=by
 rcases h.dF k e hk with⟨h1,_⟩ | ⟨d',cs,T,vs,h1,h2,h3,_⟩ | ⟨d',ms,h1,h2,h3,_⟩
 ·rw[hd]at h1;simp at h1
 ·rw[hd]at h1;simp only[awR]at h1;subst h1;exact iL h3
 ·rw[hd]at h1;simp only[awR]at h1;subst h1;exact iL h3
theorem cM.aR(h:cM C β H M w){b:Nat}{cs:Array Value}(hb:H b=some cs):b<w.heap.size:=by obtain⟨T,z,h'⟩:=h.inv b cs hb;exact iL h'
theorem iN(h:cM C β H M w)(x:Option Bd):∀k d,β k=some d->(β.eK M.length x) k=some d:=λk d hk=>by simp only[cu.eK];rw[if_neg];exact hk;intro e;subst e;rw[h.fresh _ (Nat.le_refl _)]at hk;cases hk
theorem getElem?_snoc{α:Type}{l:List α}{x y:α}{k:Nat}(h:(l++[x])[k]?=some y):(k<l.length∧l[k]?=some y)∨(k=l.length∧y=x):=by
 rcases Nat.lt_trichotomy k l.length with h' | h' | h'
 ·rw[List.getElem?_append_left h']at h;exact .inl ⟨h',h⟩
 ·subst h';simp at h;exact .inr ⟨rfl,h.symm⟩
 ·rw[List.getElem?_append_right (by omega)]at h;have:k - l.length≠0:=by omega
  rw[awT (by simp;omega)]at h;cases h
theorem cM.alloc(h:cM C β H M w){cs:Array Value}{T:TypeId}{s:Nat}{es:List SV}{vs:List Value}(hd:ba β H s es vs)(hl:vs.length<=cs.size)
  (hc:∀i,i<vs.length->cs[i]?=vs[i]?) :
  cM C (β.eK M.length (some ⟨w.heap.size,cs.size,s⟩)) H (M++[some ⟨s,es,false⟩]) (w.alloc (.cells cs T)) where
 os:=h.os
 tape:=h.tape
 output:=h.output
 size:=by have:=h.size;simp;omega
 frame b hb hx:=by rw[heap_alloc_old (by have:=h.size;omega)];exact h.frame b hb hx
 ext:=h.ext
 new:=h.new
 inv b ae hb:=by obtain⟨T',z,h'⟩:=h.inv b ae hb;exact⟨T',z,by rw[heap_alloc_old (iL h')];exact h'⟩
 dF k e hk:=by
  rcases getElem?_snoc hk with⟨an,af⟩ | ⟨rfl,he⟩
  ·exact(h.dF k e af).up (iN h _) (λ_ _ h=>h) (λd aa=>heap_alloc_old (h.lt af aa))
  ·simp only[awR]at he;subst he;exact .inr (.inl ⟨_,cs,T,vs,by simp[cu.eK];rfl,rfl,heap_alloc_new,rfl,ba.mono (λ_ _ h=>h) _ _ _ (λk d _=>iN h _ k d) hd,hl,hc,λhf=>by cases hf⟩)
 own k e d hk aa:=by
  rcases getElem?_snoc hk with⟨an,af⟩ | ⟨rfl,he⟩
  ·simp only[cu.eK]at aa;rw[if_neg (by omega)]at aa;exact h.own k e d af aa
  ·simp only[cu.eK,if_true,awR]at aa;subst aa;refine⟨λ_=>?_,.inl h.size⟩;cases hH:H w.heap.size with
   | none=>rfl
   | some ae=>have:=h.aR hH;omega
 inj k k' e e' d d' hk af ab ac hb:=by
  rcases getElem?_snoc hk with⟨aq,ai⟩ | ⟨rfl,ar⟩<;>rcases getElem?_snoc af with⟨au,aj⟩ | ⟨rfl,av⟩
  ·simp only[cu.eK]at ab ac;rw[if_neg (by omega)]at ab ac;exact h.inj k k' e e' d d' ai aj ab ac hb
  ·simp only[cu.eK]at ab ac;rw[if_neg (by omega)]at ab;simp only[if_true,awR]at ac;subst ac;have:=h.lt ai ab;simp only at hb;omega
  ·simp only[cu.eK]at ab ac;rw[if_neg (by omega)]at ac;simp only[if_true,awR]at ab;subst ab;have:=h.lt aj ac;simp only at hb;omega
  ·rfl
 fresh k hk:=by simp only[awU,awV,awW]at hk;simp only[cu.eK];rw[if_neg (by omega)];exact h.fresh k (by omega)
 iK k d hk hd:=iN h _ k d (h.iK k d hk hd)
 fM:=h.fM
theorem cM.nil(h:cM C β H M w)(s:Nat):cM C (β.eK M.length none) H (M++[some ⟨s,[],false⟩]) w where
 os:=h.os
 tape:=h.tape
 output:=h.output
 size:=h.size
 frame:=h.frame
 ext:=h.ext
 new:=h.new
 inv:=h.inv
 dF k e hk:=by
  rcases getElem?_snoc hk with⟨an,af⟩ | ⟨rfl,he⟩
  ·exact(h.dF k e af).up (iN h _) (λ_ _ h=>h) (λd aa=>rfl)
  ·simp only[awR]at he;subst he;exact .inl ⟨by simp[cu.eK],rfl⟩
 own k e d hk aa:=by
  rcases getElem?_snoc hk with⟨an,af⟩ | ⟨rfl,he⟩
  ·simp only[cu.eK]at aa;rw[if_neg (by omega)]at aa;exact h.own k e d af aa
  ·simp[cu.eK]at aa
 inj k k' e e' d d' hk af ab ac hb:=by
  rcases getElem?_snoc hk with⟨aq,ai⟩ | ⟨rfl,ar⟩<;>rcases getElem?_snoc af with⟨au,aj⟩ | ⟨rfl,av⟩
  ·simp only[cu.eK]at ab ac;rw[if_neg (by omega)]at ab ac;exact h.inj k k' e e' d d' ai aj ab ac hb
  ·simp[cu.eK]at ac
  ·simp[cu.eK]at ab
  ·rfl
 fresh k hk:=by simp only[awU,awV,awW]at hk;simp only[cu.eK];rw[if_neg (by omega)];exact h.fresh k (by omega)
 iK k d hk hd:=iN h _ k d (h.iK k d hk hd)
 fM:=h.fM
theorem cM.drew(h:cM C β H M w):cM C β H M w.drew :=
 ⟨h.os,h.tape,h.output,h.size,h.frame,h.ext,h.new,h.inv,λk e hk=>(h.dF k e hk).up (λ_ _ h=>h) (λ_ _ h=>h) (λ_ _=>rfl),h.own,h.inj,h.fresh,h.iK,h.fM⟩
structure Wr(w:World)(b:Nat)(cs:Array Value)(T:TypeId)(w':World):Prop where
 os:w'.os=w.os
 tape:w'.tape=w.tape
 output:w'.output=w.output
 size:w'.heap.size=w.heap.size
 here:w'.heap[b]?=some (.cells cs T (0,0))
 there:∀b',b'≠b->w'.heap[b']?=w.heap[b']?
theorem getElem?_set_cases{l:aC}{k i:Nat}{x:Option cJ}{y:cJ}(h:(l.set k x)[i]?=some (some y)):(i=k∧x=some y∧k<l.length)∨(i≠k∧l[i]?=some (some y)):=by
 by_cases e:k=i
 ·subst e;rcases Nat.lt_or_ge k l.length with h' | h'
  ·rw[List.getElem?_set_self h']at h;simp only[awR]at h;exact .inl ⟨rfl,h,h'⟩
  ·rw[awT (by simpa using h')]at h;cases h
 ·rw[List.getElem?_set_ne e]at h;exact .inr ⟨λh=>e h.symm,h⟩
theorem cM.write(h:cM C β H M w){k:Nat}{e:cJ}{d:Bd}(hk:M[k]?=some (some e))(hf:e.fz=false)(hd:β k=some (some d))(wE:d.sz=e.sz)
  {cs:Array Value} {T:TypeId} {w':World} (hw:Wr w d.b cs T w') (hs:cs.size=d.Jn) {es:List SV} {vs:List Value} (ao:ba β H e.sz es vs)
  (hl:vs.length<=cs.size) (hc:∀i,i<vs.length->cs[i]?=vs[i]?):cM C β H (M.set k (some ⟨e.sz,es,false⟩)) w' where
 os:=hw.os.trans h.os
 tape:=hw.tape.trans h.tape
 output:=hw.output.trans h.output
 size:=by rw[hw.size];exact h.size
 frame b hb hx:=by
  rw[hw.there b ?_];exact h.frame b hb hx;intro e';subst e';rcases(h.own k e d hk hd).2 with h' | h'
  ·omega
  ·exact hx h'
 ext:=h.ext
 new:=h.new
 inv b ae hb:=by obtain⟨T',z,h'⟩:=h.inv b ae hb;refine⟨T',z,?_⟩;rw[hw.there b ?_];exact h';intro e';subst e';rw[(h.own k e d hk hd).1 hf]at hb;cases hb
 dF i e' hi:=by
  rcases getElem?_set_cases hi with⟨rfl,he,_⟩ | ⟨ag,ad⟩
  ·simp only[awR]at he;subst he;exact .inr (.inl ⟨d,cs,T,vs,hd,wE,hw.here,hs,ao,hl,hc,λhf=>by cases hf⟩)
  ·refine(h.dF i e' ad).up (λ_ _ h=>h) (λ_ _ h=>h) (λd' aa=>hw.there _ λhb=>ag (h.inj i k e' e d' d ad hk aa hd hb))
 own i e' d' hi aa:=by
  rcases getElem?_set_cases hi with⟨rfl,he,_⟩ | ⟨ag,ad⟩
  ·have:=h.own i e d' hk aa;exact⟨λ_=>this.1 hf,this.2⟩
  ·exact h.own i e' d' ad aa
 inj i i' e1 e2 d1 d2 hi ad h1 h2 hb:=by
  have aux:∀j e',(M.set k (some ⟨e.sz,es,false⟩))[j]?=some (some e')->∃ah,M[j]?=some (some ah):=λj e' hj=>by
   rcases getElem?_set_cases hj with⟨rfl,_,_⟩ | ⟨_,ak⟩
   ·exact⟨e,hk⟩
   ·exact⟨e',ak⟩
  obtain⟨f1,al⟩:=aux i e1 hi;obtain⟨f2,am⟩:=aux i' e2 ad;exact h.inj i i' f1 f2 d1 d2 al am h1 h2 hb
 fresh i hi:=h.fresh i (by simpa using hi)
 iK:=h.iK
 fM:=h.fM
theorem cM.freeze(h:cM C β H M w){k:Nat}{e:cJ}(hk:M[k]?=some (some e))(hp:SV.bF e.es=true) :
  ∃H',(∀b cs,H b=some cs->H' b=some cs)∧cM C β H' (M.set k (some ⟨e.sz,e.es,true⟩)) w:=by
 rcases h.dF k e hk with⟨h1,h2⟩ | ⟨d,cs,T,vs,h1,h2,h3,h4,h5,h6,h7,h8⟩ | ⟨d,ms,h1,h2,h3,h4⟩
 ·refine⟨H,λ_ _ h=>h,h.os,h.tape,h.output,h.size,h.frame,h.ext,h.new,h.inv,λi e' hi=>?_,λi e' d hi hd=>?_,λi i' e1 e2 d1 d2 hi ad ab ac hb=>?_,λi hi=>h.fresh i (by simpa using hi),h.iK,h.fM⟩
  ·rcases getElem?_set_cases hi with⟨rfl,he,_⟩ | ⟨ag,ad⟩
   ·simp only[awR]at he;subst he;exact .inl ⟨h1,h2⟩
   ·exact h.dF i e' ad
  ·rcases getElem?_set_cases hi with⟨rfl,he,_⟩ | ⟨ag,ad⟩
   ·rw[hd]at h1;simp at h1
   ·exact h.own i e' d ad hd
  ·rcases getElem?_set_cases hi with⟨rfl,he,_⟩ | ⟨ag,aw⟩
   ·rw[ab]at h1;simp at h1
   ·rcases getElem?_set_cases ad with⟨rfl,ay,_⟩ | ⟨ax,ap⟩
    ·rw[ac]at h1;simp at h1
    ·exact h.inj i i' e1 e2 d1 d2 aw ap ab ac hb
 ·have hH:∀b ae,H b=some ae->(H.eK d.b cs) b=some ae:=λb ae hb=>by
   simp only[Hp.eK];by_cases e':b=d.b
   ·subst e';rw[if_pos rfl];obtain⟨T',z,hi⟩:=h.inv _ _ hb;rw[h3]at hi;simp only[awR,Obj.cells.injEq]at hi;rw[hi.1]
   ·rw[if_neg e'];exact hb
  refine⟨H.eK d.b cs,hH,h.os,h.tape,h.output,h.size,h.frame,λb ae hb=>hH _ _ (h.ext b ae hb),λb ae hb=>?_,λb ae hb=>?_,λi e' hi=>?_,λi e' d' hi aa=>?_,λi i' e1 e2 d1 d2 hi ad ab ac hb=>?_,λi hi=>h.fresh i (by simpa using hi),h.iK,h.fM.mono hH⟩
  ·simp only[Hp.eK]at hb;by_cases e':b=d.b
   ·subst e';exact .inr (h.own k e d hk h1).2
   ·rw[if_neg e']at hb;exact h.new b ae hb
  ·simp only[Hp.eK]at hb;by_cases e':b=d.b
   ·subst e';rw[if_pos rfl]at hb;simp only[awR]at hb;subst hb;exact⟨T,_,h3⟩
   ·rw[if_neg e']at hb;exact h.inv b ae hb
  ·rcases getElem?_set_cases hi with⟨rfl,he,_⟩ | ⟨ag,ad⟩
   ·simp only[awR]at he;subst he;exact .inr (.inl ⟨d,cs,T,vs,h1,h2,h3,h4,ba.mono hH _ _ _ (λ_ _ _ h=>h) h5,h6,h7,λ_=>⟨by simp[Hp.eK],hp⟩⟩)
   ·exact(h.dF i e' ad).up (λ_ _ h=>h) hH (λ_ _=>rfl)
  ·rcases getElem?_set_cases hi with⟨rfl,he,_⟩ | ⟨ag,ad⟩
   ·simp only[awR]at he;subst he;exact⟨λhf=>(by cases hf),(h.own i e d' hk aa).2⟩
   ·refine⟨λhf=>?_,(h.own i e' d' ad aa).2⟩;simp only[Hp.eK];rw[if_neg]
    ·exact(h.own i e' d' ad aa).1 hf
    ·intro hb;exact ag (h.inj i k e' e d' d ad hk aa h1 hb)
  ·have aux:∀j e',(M.set k (some ⟨e.sz,e.es,true⟩))[j]?=some (some e')->∃ah,M[j]?=some (some ah):=λj e' hj=>by
    rcases getElem?_set_cases hj with⟨rfl,_,_⟩ | ⟨_,ak⟩
    ·exact⟨e,hk⟩
    ·exact⟨e',ak⟩
   obtain⟨f1,al⟩:=aux i e1 hi;obtain⟨f2,am⟩:=aux i' e2 ad;exact h.inj i i' f1 f2 d1 d2 al am ab ac hb
 ·have aux:∀(j:Nat) (e':cJ),(M.set k (some ⟨e.sz,e.es,true⟩))[j]?=some (some e')->∃ah:cJ,M[j]?=some (some ah)∧(e'.fz=false->ah.fz=false):=λj e' hj=>by
   rcases getElem?_set_cases hj with⟨rfl,he,_⟩ | ⟨_,ak⟩
   ·simp only[awR]at he;subst he;exact⟨e,hk,λh=>by cases h⟩
   ·exact⟨e',ak,id⟩
  refine⟨H,λ_ _ h=>h,h.os,h.tape,h.output,h.size,h.frame,h.ext,h.new,h.inv,λi e' hi=>?_,λi e' d' hi aa=>?_,λi i' e1 e2 d1 d2 hi ad ab ac hb=>?_,λi hi=>h.fresh i (by simpa using hi),h.iK,h.fM⟩
  ·rcases getElem?_set_cases hi with⟨rfl,he,_⟩ | ⟨ag,ad⟩
   ·simp only[awR]at he;subst he;exact .inr (.inr ⟨d,ms,h1,h2,h3,h4⟩)
   ·exact h.dF i e' ad
  ·obtain⟨ah,g1,g2⟩:=aux i e' hi;have:=h.own i ah d' g1 aa;exact⟨λhf=>this.1 (g2 hf),this.2⟩
  ·obtain⟨f1,al, -⟩:=aux i e1 hi;obtain⟨f2,am, -⟩:=aux i' e2 ad;exact h.inj i i' f1 f2 d1 d2 al am ab ac hb
theorem cM.allocMap(h:cM C β H M w) :
  cM C (β.eK M.length (some ⟨w.heap.size,0,1⟩)) H (M++[some ⟨0,[],false⟩]) (w.alloc (.map #[] 0)) where
 os:=h.os
 tape:=h.tape
 output:=h.output
 size:=by have:=h.size;simp;omega
 frame b hb hx:=by rw[heap_alloc_old (by have:=h.size;omega)];exact h.frame b hb hx
 ext:=h.ext
 new:=h.new
 inv b ae hb:=by obtain⟨T',z,h'⟩:=h.inv b ae hb;exact⟨T',z,by rw[heap_alloc_old (iL h')];exact h'⟩
 dF k e hk:=by
  rcases getElem?_snoc hk with⟨an,af⟩ | ⟨rfl,he⟩
  ·exact(h.dF k e af).up (iN h _) (λ_ _ h=>h) (λd aa=>heap_alloc_old (h.lt af aa))
  ·simp only[awR]at he;subst he;exact .inr (.inr ⟨_,#[],by simp[cu.eK];rfl,⟨rfl,rfl,rfl⟩,heap_alloc_new,by simp[cS]⟩)
 own k e d hk aa:=by
  rcases getElem?_snoc hk with⟨an,af⟩ | ⟨rfl,he⟩
  ·simp only[cu.eK]at aa;rw[if_neg (by omega)]at aa;exact h.own k e d af aa
  ·simp only[cu.eK,if_true,awR]at aa;subst aa;refine⟨λ_=>?_,.inl h.size⟩;cases hH:H w.heap.size with
   | none=>rfl
   | some ae=>have:=h.aR hH;omega
 inj k k' e e' d d' hk af ab ac hb:=by
  rcases getElem?_snoc hk with⟨aq,ai⟩ | ⟨rfl,ar⟩<;>rcases getElem?_snoc af with⟨au,aj⟩ | ⟨rfl,av⟩
  ·simp only[cu.eK]at ab ac;rw[if_neg (by omega)]at ab ac;exact h.inj k k' e e' d d' ai aj ab ac hb
  ·simp only[cu.eK]at ab ac;rw[if_neg (by omega)]at ab;simp only[if_true,awR]at ac;subst ac;have:=h.lt ai ab;simp only at hb;omega
  ·simp only[cu.eK]at ab ac;rw[if_neg (by omega)]at ac;simp only[if_true,awR]at ab;subst ab;have:=h.lt aj ac;simp only at hb;omega
  ·rfl
 fresh k hk:=by simp only[awU,awV,awW]at hk;simp only[cu.eK];rw[if_neg (by omega)];exact h.fresh k (by omega)
 iK k d hk hd:=iN h _ k d (h.iK k d hk hd)
 fM:=h.fM
structure WrM(w:World)(b:Nat)(ms:Array MapEntry)(w':World):Prop where
 os:w'.os=w.os
 tape:w'.tape=w.tape
 output:w'.output=w.output
 size:w'.heap.size=w.heap.size
 here:w'.heap[b]?=some (.map ms ms.size)
 there:∀b',b'≠b->w'.heap[b']?=w.heap[b']?
theorem cM.rm(h:cM C β H M w){k:Nat}{e:cJ}{d:Bd}(hk:M[k]?=some (some e))(hf:e.fz=false)(hd:β k=some (some d))(hz:e.sz=0∧d.sz=1∧d.Jn=0)
  {ms:Array MapEntry} {w':World} (hw:WrM w d.b ms w') {es:List SV} (ao:cS β H es ms.toList 0):cM C β H (M.set k (some ⟨e.sz,es,false⟩)) w' where
 os:=hw.os.trans h.os
 tape:=hw.tape.trans h.tape
 output:=hw.output.trans h.output
 size:=by rw[hw.size];exact h.size
 frame b hb hx:=by
  rw[hw.there b ?_];exact h.frame b hb hx;intro e';subst e';rcases(h.own k e d hk hd).2 with h' | h'
  ·omega
  ·exact hx h'
 ext:=h.ext
 new:=h.new
 inv b ae hb:=by obtain⟨T',z,h'⟩:=h.inv b ae hb;refine⟨T',z,?_⟩;rw[hw.there b ?_];exact h';intro e';subst e';rw[(h.own k e d hk hd).1 hf]at hb;cases hb
 dF i e' hi:=by
  rcases getElem?_set_cases hi with⟨rfl,he,_⟩ | ⟨ag,ad⟩
  ·simp only[awR]at he;subst he;exact .inr (.inr ⟨d,ms,hd,hz,hw.here,ao⟩)
  ·refine(h.dF i e' ad).up (λ_ _ h=>h) (λ_ _ h=>h) (λd' aa=>hw.there _ λhb=>ag (h.inj i k e' e d' d ad hk aa hd hb))
 own i e' d' hi aa:=by
  rcases getElem?_set_cases hi with⟨rfl,he,_⟩ | ⟨ag,ad⟩
  ·have:=h.own i e d' hk aa;exact⟨λ_=>this.1 hf,this.2⟩
  ·exact h.own i e' d' ad aa
 inj i i' e1 e2 d1 d2 hi ad h1 h2 hb:=by
  have aux:∀j e',(M.set k (some ⟨e.sz,es,false⟩))[j]?=some (some e')->∃ah,M[j]?=some (some ah):=λj e' hj=>by
   rcases getElem?_set_cases hj with⟨rfl,_,_⟩ | ⟨_,ak⟩
   ·exact⟨e,hk⟩
   ·exact⟨e',ak⟩
  obtain⟨f1,al⟩:=aux i e1 hi;obtain⟨f2,am⟩:=aux i' e2 ad;exact h.inj i i' f1 f2 d1 d2 al am h1 h2 hb
 fresh i hi:=h.fresh i (by simpa using hi)
 iK:=h.iK
 fM:=h.fM
end
end Go.Sv

