/- A text of the prover's own. -/
import Derived.Test.YtmghjkkjaolpgaaGreatDoorUGl
import Derived.Below
open Option.some renaming injEq→al0
open Array renaming getElem?_setIfInBounds_ne→al1
open List renaming getElem?_eq_none→al2,length_append→al3,length_cons→al4,length_nil→al5
namespace Go.Sv
open Go Go.RowKit
structure cx where
 sz:Nat
 es:List SV
 fz:Bool
abbrev aJ:=List (Option cx)
def nY(β:bO)(H:Hp)(e:cx)(k:Nat)(w:World):Prop :=
 (β k=some none∧e.es=[]) ∨
 (∃d cs T vs,β k=some (some d)∧d.sz=e.sz∧w.heap[d.b]?=some (.cells cs T (0,0))∧cs.size=d.Gr∧aU β H e.sz e.es vs∧vs.length≤cs.size ∧
  (∀i,i<vs.length→cs[i]?=vs[i]?)∧(e.fz=true→H d.b=some cs∧SV.ba e.es=true)) ∨
 (∃d ms,β k=some (some d)∧(e.sz=0∧d.sz=1∧d.Gr=0)∧w.heap[d.b]?=some (.map ms ms.size)∧cH β H e.es ms.toList 0)
structure Ctx where
 w0:World
 H0:Hp
 X:List Nat
 b0:bO
 fx:List Nat
structure JS(H:Hp):Prop where
 at_:∀g x,gl g=some x→∃v,Den lF H x v∧H g=some v.cells
 ne:∀t g t' g',gl g=some (.fp t g)→gl g'=some (.fp t' g')→g≠g'→H g≠H g'
theorem JS.mono{H H':Hp}(h:JS H)(hH:∀b cs,H b=some cs→H' b=some cs):JS H' where
 at_ g x hg:=by
  obtain⟨v,h1,h2⟩:=h.at_ g x hg;exact⟨v,h1.up (fun _ _ h=>h) hH,hH _ _ h2⟩
 ne t g t' g' h1 h2 h3 h4:=by
  obtain⟨v,_,h5⟩:=h.at_ g _ h1;obtain⟨v',_,h6⟩:=h.at_ g' _ h2;have:=h.ne t g t' g' h1 h2 h3;rw[hH _ _ h5,hH _ _ h6]at h4;rw[h5,h6]at this;exact this h4
structure cv(C:Ctx)(β:bO)(H:Hp)(M:aJ)(w:World):Prop where
 os:w.os=C.w0.os
 tape:w.tape=C.w0.tape
 output:w.output=C.w0.output
 size:C.w0.heap.size≤w.heap.size
 frame:∀b,b<C.w0.heap.size→b∉C.X→w.heap[b]?=C.w0.heap[b]?
 ext:∀b cs,C.H0 b=some cs→H b=some cs
 new:∀b cs,H b=some cs→C.H0 b=some cs∨C.w0.heap.size≤b∨b∈C.X
 inv:∀b cs,H b=some cs→∃T z,w.heap[b]?=some (.cells cs T z)
 da:∀k e,M[k]?=some (some e)→nY β H e k w
 own:∀k e d,M[k]?=some (some e)→β k=some (some d)→(e.fz=false→H d.b=none)∧(C.w0.heap.size≤d.b∨d.b∈C.X)
 inj:∀k k' e e' d d',M[k]?=some (some e)→M[k']?=some (some e')→β k=some (some d)→β k'=some (some d')→d.b=d'.b→k=k'
 fresh:∀k,M.length≤k→β k=none
 fU:∀k d,k∈C.fx→C.b0 k=some d→β k=some d
 eW:JS H
def get:List (Nat × SV)→Nat→Option SV
 | [],_=>none
 | (s,x)::r,t=>if s=t then some x else get r t
def gI(β:bO)(H:Hp)(n:Nat)(fr:List (Nat × SV))(a:Act):Prop :=
 (a.defers=[]∧JS H)∧a.tmps.size=n∧∀t x,get fr t=some x→∃v,a.tmps[t]?=some v∧Den β H x v
theorem gI.put{β:bO}{H:Hp}{n:Nat}{fr:List (Nat × SV)}{a:Act}(h:gI β H n fr a){t:Nat}{x:SV}{v:Value}(ht:t<n)(hx:Den β H x v) :
  gI β H n ((t,x)::fr) (a.put (some t) v):=by
 obtain⟨h1,h2,h3⟩:=h;refine⟨h1,by simp[Act.put,h2],fun t' x' hg=>?_⟩;simp only[get]at hg;by_cases e:t=t'
 ·subst e;simp only[if_true,al0]at hg;subst hg;exact⟨v,by simp[Act.put,h2,ht],hx⟩
 ·rw[if_neg e]at hg;obtain⟨v',hv,hd⟩:=h3 t' x' hg;exact⟨v',by simp only[Act.put];rw[al1 e];exact hv,hd⟩
def del(fr:List (Nat × SV))(t:Nat):List (Nat × SV):=fr.filter fun p=>!(p.1==t)
theorem iZ{fr:List (Nat × SV)}{t t':Nat}{x:SV}(h:get (del fr t) t'=some x):t'≠t∧get fr t'=some x:=by
 induction fr with
 | nil=>simp[del,get]at h
 | cons p r ih =>
  obtain⟨s,y⟩:=p;simp only[del,List.filter_cons]at h;by_cases e:s=t
  ·subst e;simp only[beq_self_eq_true,Bool.not_true,Bool.false_eq_true,if_false]at h;obtain⟨h1,h2⟩:=ih h;exact⟨h1,by simp[get,Ne.symm h1,h2]⟩
  ·have:(s==t)=false:=by simpa using e
   simp only[this,Bool.not_false,if_true,get]at h;by_cases e':s=t'
   ·subst e';simp only[if_true]at h;exact⟨e,by simp[get,h]⟩
   ·simp only[e',if_false]at h;obtain⟨h1,h2⟩:=ih h;exact⟨h1,by simp[get,e',h2]⟩
theorem gI.skip{β:bO}{H:Hp}{n:Nat}{fr:List (Nat × SV)}{a:Act}(h:gI β H n fr a)(t:Nat)(v:Value) :
  gI β H n (del fr t) (a.put (some t) v):=by
 obtain⟨h1,h2,h3⟩:=h;refine⟨h1,by simp[Act.put,h2],fun t' x' hg=>?_⟩;obtain⟨e,hg⟩:=iZ hg;obtain⟨v',hv,hd⟩:=h3 t' x' hg;exact⟨v',by simp only[Act.put];rw[al1 (Ne.symm e)];exact hv,hd⟩
theorem gI.mono{β β':bO}{H H':Hp}{n:Nat}{fr:List (Nat × SV)}{a:Act}(h:gI β H n fr a)
  (hb:∀k d,β k=some d→β' k=some d) (hH:∀b cs,H b=some cs→H' b=some cs):gI β' H' n fr a :=
 ⟨⟨h.1.1,h.1.2.mono hH⟩,h.2.1,fun t x hg=>let ⟨v,hv,hd⟩:=h.2.2 t x hg;⟨v,hv,hd.up hb hH⟩⟩
theorem gI.sub{β:bO}{H:Hp}{n:Nat}{fr fr':List (Nat × SV)}{a:Act}(h:gI β H n fr a)
  (hs:∀t x,get fr' t=some x→get fr t=some x):gI β H n fr' a :=
 ⟨h.1,h.2.1,fun t x hg=>h.2.2 t x (hs t x hg)⟩
/-! ### The world turns -/
theorem heap_alloc_old{w:World}{o:Obj}{b:Nat}(h:b<w.heap.size):(w.alloc o).heap[b]?=w.heap[b]?:=Below.heap_alloc w o b h
theorem heap_alloc_new{w:World}{o:Obj}:(w.alloc o).heap[w.heap.size]?=some o:=by
 show(w.heap.push o)[w.heap.size]?=some o;simp
theorem gn{w:World}{b:Nat}{o:Obj}(h:w.heap[b]?=some o):b<w.heap.size:=by
 rcases Nat.lt_or_ge b w.heap.size with h' | h'
 ·exact h'
 ·rw[Array.getElem?_eq_none h']at h;cases h
def bO.dT(β:bO)(k:Nat)(x:Option Bd):bO:=fun i=>if i=k then some x else β i
def Hp.dT(H:Hp)(b:Nat)(cs:Array Value):Hp:=fun i=>if i=b then some cs else H i
section
variable {C:Ctx} {β:bO} {H:Hp} {M:aJ} {w:World}
theorem nY.up{e:cx}{k:Nat}{β':bO}{H':Hp}{w':World}(h:nY β H e k w)(hb:∀k d,β k=some d→β' k=some d)
  (hH:∀b cs,H b=some cs→H' b=some cs) (hw:∀d,β k=some (some d)→w'.heap[d.b]?=w.heap[d.b]?):nY β' H' e k w':=by
 rcases h with⟨h1,h2⟩ | ⟨d,cs,T,vs,h1,h2,h3,h4,h5,h6,h7,h8⟩ | ⟨d,ms,h1,h2,h3,h4⟩
 ·exact .inl ⟨hb _ _ h1,h2⟩
 ·exact .inr (.inl ⟨d,cs,T,vs,hb _ _ h1,h2,by rw[hw d h1];exact h3,h4,aU.mono hH _ _ _ (fun k d _=>hb k d) h5,h6,h7,fun hf=>⟨hH _ _ (h8 hf).1,(h8 hf).2⟩⟩)
 ·exact .inr (.inr ⟨d,ms,hb _ _ h1,h2,by rw[hw d h1];exact h3,cH.mono hH _ _ _ (fun k d _=>hb k d) h4⟩)
theorem cv.lt(h:cv C β H M w){k:Nat}{e:cx}{d:Bd}(hk:M[k]?=some (some e))(hd:β k=some (some d)):d.b<w.heap.size:=by
 rcases h.da k e hk with⟨h1,_⟩ | ⟨d',cs,T,vs,h1,h2,h3,_⟩ | ⟨d',ms,h1,h2,h3,_⟩
 ·rw[hd]at h1;simp at h1
 ·rw[hd]at h1;simp only[al0]at h1;subst h1;exact gn h3
 ·rw[hd]at h1;simp only[al0]at h1;subst h1;exact gn h3
theorem cv.aF(h:cv C β H M w){b:Nat}{cs:Array Value}(hb:H b=some cs):b<w.heap.size:=by
 obtain⟨T,z,h'⟩:=h.inv b cs hb;exact gn h'
theorem fS(h:cv C β H M w)(x:Option Bd):∀k d,β k=some d→(β.dT M.length x) k=some d:=fun k d hk=>by
 simp only[bO.dT];rw[if_neg];exact hk;intro e;subst e;rw[h.fresh _ (Nat.le_refl _)]at hk;cases hk
theorem getElem?_snoc{α:Type}{l:List α}{x y:α}{k:Nat}(h:(l++[x])[k]?=some y):(k<l.length∧l[k]?=some y)∨(k=l.length∧y=x):=by
 rcases Nat.lt_trichotomy k l.length with h' | h' | h'
 ·rw[List.getElem?_append_left h']at h;exact .inl ⟨h',h⟩
 ·subst h';simp at h;exact .inr ⟨rfl,h.symm⟩
 ·rw[List.getElem?_append_right (by omega)]at h;have:k - l.length≠0:=by omega
  rw[al2 (by simp;omega)]at h;cases h
theorem cv.alloc(h:cv C β H M w){cs:Array Value}{T:TypeId}{s:Nat}{es:List SV}{vs:List Value}(hd:aU β H s es vs)(hl:vs.length≤cs.size)
  (hc:∀i,i<vs.length→cs[i]?=vs[i]?) :
  cv C (β.dT M.length (some ⟨w.heap.size,cs.size,s⟩)) H (M++[some ⟨s,es,false⟩]) (w.alloc (.cells cs T)) where
 os:=h.os
 tape:=h.tape
 output:=h.output
 size:=by have:=h.size;simp;omega
 frame b hb hx:=by rw[heap_alloc_old (by have:=h.size;omega)];exact h.frame b hb hx
 ext:=h.ext
 new:=h.new
 inv b cs' hb:=by obtain⟨T',z,h'⟩:=h.inv b cs' hb;exact⟨T',z,by rw[heap_alloc_old (gn h')];exact h'⟩
 da k e hk:=by
  rcases getElem?_snoc hk with⟨hl',hk'⟩ | ⟨rfl,he⟩
  ·exact(h.da k e hk').up (fS h _) (fun _ _ h=>h) (fun d hd'=>heap_alloc_old (h.lt hk' hd'))
  ·simp only[al0]at he;subst he;exact .inr (.inl ⟨_,cs,T,vs,by simp[bO.dT];rfl,rfl,heap_alloc_new,rfl,aU.mono (fun _ _ h=>h) _ _ _ (fun k d _=>fS h _ k d) hd,hl,hc,fun hf=>by cases hf⟩)
 own k e d hk hd':=by
  rcases getElem?_snoc hk with⟨hl',hk'⟩ | ⟨rfl,he⟩
  ·simp only[bO.dT]at hd';rw[if_neg (by omega)]at hd';exact h.own k e d hk' hd'
  ·simp only[bO.dT,if_true,al0]at hd';subst hd';refine⟨fun _=>?_,.inl h.size⟩;cases hH:H w.heap.size with
   | none=>rfl
   | some cs'=>have:=h.aF hH;omega
 inj k k' e e' d d' hk hk' hd1 hd2 hb:=by
  rcases getElem?_snoc hk with⟨hl1,hk1⟩ | ⟨rfl,he1⟩<;>rcases getElem?_snoc hk' with⟨hl2,hk2⟩ | ⟨rfl,he2⟩
  ·simp only[bO.dT]at hd1 hd2;rw[if_neg (by omega)]at hd1 hd2;exact h.inj k k' e e' d d' hk1 hk2 hd1 hd2 hb
  ·simp only[bO.dT]at hd1 hd2;rw[if_neg (by omega)]at hd1;simp only[if_true,al0]at hd2;subst hd2;have:=h.lt hk1 hd1;simp only at hb;omega
  ·simp only[bO.dT]at hd1 hd2;rw[if_neg (by omega)]at hd2;simp only[if_true,al0]at hd1;subst hd1;have:=h.lt hk2 hd2;simp only at hb;omega
  ·rfl
 fresh k hk:=by
  simp only[al3,al4,al5]at hk;simp only[bO.dT];rw[if_neg (by omega)];exact h.fresh k (by omega)
 fU k d hk hd:=fS h _ k d (h.fU k d hk hd)
 eW:=h.eW
theorem cv.nil(h:cv C β H M w)(s:Nat):cv C (β.dT M.length none) H (M++[some ⟨s,[],false⟩]) w where
 os:=h.os
 tape:=h.tape
 output:=h.output
 size:=h.size
 frame:=h.frame
 ext:=h.ext
 new:=h.new
 inv:=h.inv
 da k e hk:=by
  rcases getElem?_snoc hk with⟨hl',hk'⟩ | ⟨rfl,he⟩
  ·exact(h.da k e hk').up (fS h _) (fun _ _ h=>h) (fun d hd'=>rfl)
  ·simp only[al0]at he;subst he;exact .inl ⟨by simp[bO.dT],rfl⟩
 own k e d hk hd':=by
  rcases getElem?_snoc hk with⟨hl',hk'⟩ | ⟨rfl,he⟩
  ·simp only[bO.dT]at hd';rw[if_neg (by omega)]at hd';exact h.own k e d hk' hd'
  ·simp[bO.dT]at hd'
 inj k k' e e' d d' hk hk' hd1 hd2 hb:=by
  rcases getElem?_snoc hk with⟨hl1,hk1⟩ | ⟨rfl,he1⟩<;>rcases getElem?_snoc hk' with⟨hl2,hk2⟩ | ⟨rfl,he2⟩
  ·simp only[bO.dT]at hd1 hd2;rw[if_neg (by omega)]at hd1 hd2;exact h.inj k k' e e' d d' hk1 hk2 hd1 hd2 hb
  ·simp[bO.dT]at hd2
  ·simp[bO.dT]at hd1
  ·rfl
 fresh k hk:=by
  simp only[al3,al4,al5]at hk;simp only[bO.dT];rw[if_neg (by omega)];exact h.fresh k (by omega)
 fU k d hk hd:=fS h _ k d (h.fU k d hk hd)
 eW:=h.eW
theorem cv.drew(h:cv C β H M w):cv C β H M w.drew :=
 ⟨h.os,h.tape,h.output,h.size,h.frame,h.ext,h.new,h.inv,fun k e hk=>(h.da k e hk).up (fun _ _ h=>h) (fun _ _ h=>h) (fun _ _=>rfl),h.own,h.inj,h.fresh,h.fU,h.eW⟩
structure Wr(w:World)(b:Nat)(cs:Array Value)(T:TypeId)(w':World):Prop where
 os:w'.os=w.os
 tape:w'.tape=w.tape
 output:w'.output=w.output
 size:w'.heap.size=w.heap.size
 here:w'.heap[b]?=some (.cells cs T (0,0))
 there:∀b',b'≠b→w'.heap[b']?=w.heap[b']?
theorem getElem?_set_cases{l:aJ}{k i:Nat}{x:Option cx}{y:cx}(h:(l.set k x)[i]?=some (some y)):(i=k∧x=some y∧k<l.length)∨(i≠k∧l[i]?=some (some y)):=by
 by_cases e:k=i
 ·subst e;rcases Nat.lt_or_ge k l.length with h' | h'
  ·rw[List.getElem?_set_self h']at h;simp only[al0]at h;exact .inl ⟨rfl,h,h'⟩
  ·rw[al2 (by simpa using h')]at h;cases h
 ·rw[List.getElem?_set_ne e]at h;exact .inr ⟨fun h=>e h.symm,h⟩
theorem cv.write(h:cv C β H M w){k:Nat}{e:cx}{d:Bd}(hk:M[k]?=some (some e))(hf:e.fz=false)(hd:β k=some (some d))(pW:d.sz=e.sz)
  {cs:Array Value} {T:TypeId} {w':World} (hw:Wr w d.b cs T w') (hs:cs.size=d.Gr) {es:List SV} {vs:List Value} (hde:aU β H e.sz es vs)
  (hl:vs.length≤cs.size) (hc:∀i,i<vs.length→cs[i]?=vs[i]?):cv C β H (M.set k (some ⟨e.sz,es,false⟩)) w' where
 os:=hw.os.trans h.os
 tape:=hw.tape.trans h.tape
 output:=hw.output.trans h.output
 size:=by rw[hw.size];exact h.size
 frame b hb hx:=by
  rw[hw.there b ?_];exact h.frame b hb hx;intro e';subst e';rcases(h.own k e d hk hd).2 with h' | h'
  ·omega
  ·exact hx h'
 ext:=h.ext
 new:=h.new
 inv b cs' hb:=by
  obtain⟨T',z,h'⟩:=h.inv b cs' hb;refine⟨T',z,?_⟩;rw[hw.there b ?_];exact h';intro e';subst e';rw[(h.own k e d hk hd).1 hf]at hb;cases hb
 da i e' hi:=by
  rcases getElem?_set_cases hi with⟨rfl,he,_⟩ | ⟨hne,hi'⟩
  ·simp only[al0]at he;subst he;exact .inr (.inl ⟨d,cs,T,vs,hd,pW,hw.here,hs,hde,hl,hc,fun hf=>by cases hf⟩)
  ·refine(h.da i e' hi').up (fun _ _ h=>h) (fun _ _ h=>h) (fun d' hd'=>hw.there _ fun hb=>hne (h.inj i k e' e d' d hi' hk hd' hd hb))
 own i e' d' hi hd':=by
  rcases getElem?_set_cases hi with⟨rfl,he,_⟩ | ⟨hne,hi'⟩
  ·have:=h.own i e d' hk hd';exact⟨fun _=>this.1 hf,this.2⟩
  ·exact h.own i e' d' hi' hd'
 inj i i' e1 e2 d1 d2 hi hi' h1 h2 hb:=by
  have aux:∀j e',(M.set k (some ⟨e.sz,es,false⟩))[j]?=some (some e')→∃e'',M[j]?=some (some e''):=fun j e' hj=>by
   rcases getElem?_set_cases hj with⟨rfl,_,_⟩ | ⟨_,hj'⟩
   ·exact⟨e,hk⟩
   ·exact⟨e',hj'⟩
  obtain⟨f1,hf1⟩:=aux i e1 hi;obtain⟨f2,hf2⟩:=aux i' e2 hi';exact h.inj i i' f1 f2 d1 d2 hf1 hf2 h1 h2 hb
 fresh i hi:=h.fresh i (by simpa using hi)
 fU:=h.fU
 eW:=h.eW
theorem cv.freeze(h:cv C β H M w){k:Nat}{e:cx}(hk:M[k]?=some (some e))(hp:SV.ba e.es=true) :
  ∃H',(∀b cs,H b=some cs→H' b=some cs)∧cv C β H' (M.set k (some ⟨e.sz,e.es,true⟩)) w:=by
 rcases h.da k e hk with⟨h1,h2⟩ | ⟨d,cs,T,vs,h1,h2,h3,h4,h5,h6,h7,h8⟩ | ⟨d,ms,h1,h2,h3,h4⟩
 ·refine⟨H,fun _ _ h=>h,h.os,h.tape,h.output,h.size,h.frame,h.ext,h.new,h.inv,fun i e' hi=>?_,fun i e' d hi hd=>?_,fun i i' e1 e2 d1 d2 hi hi' hd1 hd2 hb=>?_,fun i hi=>h.fresh i (by simpa using hi),h.fU,h.eW⟩
  ·rcases getElem?_set_cases hi with⟨rfl,he,_⟩ | ⟨hne,hi'⟩
   ·simp only[al0]at he;subst he;exact .inl ⟨h1,h2⟩
   ·exact h.da i e' hi'
  ·rcases getElem?_set_cases hi with⟨rfl,he,_⟩ | ⟨hne,hi'⟩
   ·rw[hd]at h1;simp at h1
   ·exact h.own i e' d hi' hd
  ·rcases getElem?_set_cases hi with⟨rfl,he,_⟩ | ⟨hne,hi2⟩
   ·rw[hd1]at h1;simp at h1
   ·rcases getElem?_set_cases hi' with⟨rfl,he',_⟩ | ⟨hne',hi2'⟩
    ·rw[hd2]at h1;simp at h1
    ·exact h.inj i i' e1 e2 d1 d2 hi2 hi2' hd1 hd2 hb
 ·have hH:∀b cs',H b=some cs'→(H.dT d.b cs) b=some cs':=fun b cs' hb=>by
   simp only[Hp.dT];by_cases e':b=d.b
   ·subst e';rw[if_pos rfl];obtain⟨T',z,hi⟩:=h.inv _ _ hb;rw[h3]at hi;simp only[al0,Obj.cells.injEq]at hi;rw[hi.1]
   ·rw[if_neg e'];exact hb
  refine⟨H.dT d.b cs,hH,h.os,h.tape,h.output,h.size,h.frame,fun b cs' hb=>hH _ _ (h.ext b cs' hb),fun b cs' hb=>?_,fun b cs' hb=>?_,fun i e' hi=>?_,fun i e' d' hi hd'=>?_,fun i i' e1 e2 d1 d2 hi hi' hd1 hd2 hb=>?_,fun i hi=>h.fresh i (by simpa using hi),h.fU,h.eW.mono hH⟩
  ·simp only[Hp.dT]at hb;by_cases e':b=d.b
   ·subst e';exact .inr (h.own k e d hk h1).2
   ·rw[if_neg e']at hb;exact h.new b cs' hb
  ·simp only[Hp.dT]at hb;by_cases e':b=d.b
   ·subst e';rw[if_pos rfl]at hb;simp only[al0]at hb;subst hb;exact⟨T,_,h3⟩
   ·rw[if_neg e']at hb;exact h.inv b cs' hb
  ·rcases getElem?_set_cases hi with⟨rfl,he,_⟩ | ⟨hne,hi'⟩
   ·simp only[al0]at he;subst he;exact .inr (.inl ⟨d,cs,T,vs,h1,h2,h3,h4,aU.mono hH _ _ _ (fun _ _ _ h=>h) h5,h6,h7,fun _=>⟨by simp[Hp.dT],hp⟩⟩)
   ·exact(h.da i e' hi').up (fun _ _ h=>h) hH (fun _ _=>rfl)
  ·rcases getElem?_set_cases hi with⟨rfl,he,_⟩ | ⟨hne,hi'⟩
   ·simp only[al0]at he;subst he;exact⟨fun hf=>(by cases hf),(h.own i e d' hk hd').2⟩
   ·refine⟨fun hf=>?_,(h.own i e' d' hi' hd').2⟩;simp only[Hp.dT];rw[if_neg]
    ·exact(h.own i e' d' hi' hd').1 hf
    ·intro hb;exact hne (h.inj i k e' e d' d hi' hk hd' h1 hb)
  ·have aux:∀j e',(M.set k (some ⟨e.sz,e.es,true⟩))[j]?=some (some e')→∃e'',M[j]?=some (some e''):=fun j e' hj=>by
    rcases getElem?_set_cases hj with⟨rfl,_,_⟩ | ⟨_,hj'⟩
    ·exact⟨e,hk⟩
    ·exact⟨e',hj'⟩
   obtain⟨f1,hf1⟩:=aux i e1 hi;obtain⟨f2,hf2⟩:=aux i' e2 hi';exact h.inj i i' f1 f2 d1 d2 hf1 hf2 hd1 hd2 hb
 ·have aux:∀(j:Nat) (e':cx),(M.set k (some ⟨e.sz,e.es,true⟩))[j]?=some (some e')→∃e'':cx,M[j]?=some (some e'')∧(e'.fz=false→e''.fz=false):=fun j e' hj=>by
   rcases getElem?_set_cases hj with⟨rfl,he,_⟩ | ⟨_,hj'⟩
   ·simp only[al0]at he;subst he;exact⟨e,hk,fun h=>by cases h⟩
   ·exact⟨e',hj',id⟩
  refine⟨H,fun _ _ h=>h,h.os,h.tape,h.output,h.size,h.frame,h.ext,h.new,h.inv,fun i e' hi=>?_,fun i e' d' hi hd'=>?_,fun i i' e1 e2 d1 d2 hi hi' hd1 hd2 hb=>?_,fun i hi=>h.fresh i (by simpa using hi),h.fU,h.eW⟩
  ·rcases getElem?_set_cases hi with⟨rfl,he,_⟩ | ⟨hne,hi'⟩
   ·simp only[al0]at he;subst he;exact .inr (.inr ⟨d,ms,h1,h2,h3,h4⟩)
   ·exact h.da i e' hi'
  ·obtain⟨e'',g1,g2⟩:=aux i e' hi;have:=h.own i e'' d' g1 hd';exact⟨fun hf=>this.1 (g2 hf),this.2⟩
  ·obtain⟨f1,hf1, -⟩:=aux i e1 hi;obtain⟨f2,hf2, -⟩:=aux i' e2 hi';exact h.inj i i' f1 f2 d1 d2 hf1 hf2 hd1 hd2 hb
theorem cv.allocMap(h:cv C β H M w) :
  cv C (β.dT M.length (some ⟨w.heap.size,0,1⟩)) H (M++[some ⟨0,[],false⟩]) (w.alloc (.map #[] 0)) where
 os:=h.os
 tape:=h.tape
 output:=h.output
 size:=by have:=h.size;simp;omega
 frame b hb hx:=by rw[heap_alloc_old (by have:=h.size;omega)];exact h.frame b hb hx
 ext:=h.ext
 new:=h.new
 inv b cs' hb:=by obtain⟨T',z,h'⟩:=h.inv b cs' hb;exact⟨T',z,by rw[heap_alloc_old (gn h')];exact h'⟩
 da k e hk:=by
  rcases getElem?_snoc hk with⟨hl',hk'⟩ | ⟨rfl,he⟩
  ·exact(h.da k e hk').up (fS h _) (fun _ _ h=>h) (fun d hd'=>heap_alloc_old (h.lt hk' hd'))
  ·simp only[al0]at he;subst he;exact .inr (.inr ⟨_,#[],by simp[bO.dT];rfl,⟨rfl,rfl,rfl⟩,heap_alloc_new,by simp[cH]⟩)
 own k e d hk hd':=by
  rcases getElem?_snoc hk with⟨hl',hk'⟩ | ⟨rfl,he⟩
  ·simp only[bO.dT]at hd';rw[if_neg (by omega)]at hd';exact h.own k e d hk' hd'
  ·simp only[bO.dT,if_true,al0]at hd';subst hd';refine⟨fun _=>?_,.inl h.size⟩;cases hH:H w.heap.size with
   | none=>rfl
   | some cs'=>have:=h.aF hH;omega
 inj k k' e e' d d' hk hk' hd1 hd2 hb:=by
  rcases getElem?_snoc hk with⟨hl1,hk1⟩ | ⟨rfl,he1⟩<;>rcases getElem?_snoc hk' with⟨hl2,hk2⟩ | ⟨rfl,he2⟩
  ·simp only[bO.dT]at hd1 hd2;rw[if_neg (by omega)]at hd1 hd2;exact h.inj k k' e e' d d' hk1 hk2 hd1 hd2 hb
  ·simp only[bO.dT]at hd1 hd2;rw[if_neg (by omega)]at hd1;simp only[if_true,al0]at hd2;subst hd2;have:=h.lt hk1 hd1;simp only at hb;omega
  ·simp only[bO.dT]at hd1 hd2;rw[if_neg (by omega)]at hd2;simp only[if_true,al0]at hd1;subst hd1;have:=h.lt hk2 hd2;simp only at hb;omega
  ·rfl
 fresh k hk:=by
  simp only[al3,al4,al5]at hk;simp only[bO.dT];rw[if_neg (by omega)];exact h.fresh k (by omega)
 fU k d hk hd:=fS h _ k d (h.fU k d hk hd)
 eW:=h.eW
structure WrM(w:World)(b:Nat)(ms:Array MapEntry)(w':World):Prop where
 os:w'.os=w.os
 tape:w'.tape=w.tape
 output:w'.output=w.output
 size:w'.heap.size=w.heap.size
 here:w'.heap[b]?=some (.map ms ms.size)
 there:∀b',b'≠b→w'.heap[b']?=w.heap[b']?
theorem cv.n7(h:cv C β H M w){k:Nat}{e:cx}{d:Bd}(hk:M[k]?=some (some e))(hf:e.fz=false)(hd:β k=some (some d))(hz:e.sz=0∧d.sz=1∧d.Gr=0)
  {ms:Array MapEntry} {w':World} (hw:WrM w d.b ms w') {es:List SV} (hde:cH β H es ms.toList 0):cv C β H (M.set k (some ⟨e.sz,es,false⟩)) w' where
 os:=hw.os.trans h.os
 tape:=hw.tape.trans h.tape
 output:=hw.output.trans h.output
 size:=by rw[hw.size];exact h.size
 frame b hb hx:=by
  rw[hw.there b ?_];exact h.frame b hb hx;intro e';subst e';rcases(h.own k e d hk hd).2 with h' | h'
  ·omega
  ·exact hx h'
 ext:=h.ext
 new:=h.new
 inv b cs' hb:=by
  obtain⟨T',z,h'⟩:=h.inv b cs' hb;refine⟨T',z,?_⟩;rw[hw.there b ?_];exact h';intro e';subst e';rw[(h.own k e d hk hd).1 hf]at hb;cases hb
 da i e' hi:=by
  rcases getElem?_set_cases hi with⟨rfl,he,_⟩ | ⟨hne,hi'⟩
  ·simp only[al0]at he;subst he;exact .inr (.inr ⟨d,ms,hd,hz,hw.here,hde⟩)
  ·refine(h.da i e' hi').up (fun _ _ h=>h) (fun _ _ h=>h) (fun d' hd'=>hw.there _ fun hb=>hne (h.inj i k e' e d' d hi' hk hd' hd hb))
 own i e' d' hi hd':=by
  rcases getElem?_set_cases hi with⟨rfl,he,_⟩ | ⟨hne,hi'⟩
  ·have:=h.own i e d' hk hd';exact⟨fun _=>this.1 hf,this.2⟩
  ·exact h.own i e' d' hi' hd'
 inj i i' e1 e2 d1 d2 hi hi' h1 h2 hb:=by
  have aux:∀j e',(M.set k (some ⟨e.sz,es,false⟩))[j]?=some (some e')→∃e'',M[j]?=some (some e''):=fun j e' hj=>by
   rcases getElem?_set_cases hj with⟨rfl,_,_⟩ | ⟨_,hj'⟩
   ·exact⟨e,hk⟩
   ·exact⟨e',hj'⟩
  obtain⟨f1,hf1⟩:=aux i e1 hi;obtain⟨f2,hf2⟩:=aux i' e2 hi';exact h.inj i i' f1 f2 d1 d2 hf1 hf2 h1 h2 hb
 fresh i hi:=h.fresh i (by simpa using hi)
 fU:=h.fU
 eW:=h.eW
end
end Go.Sv

