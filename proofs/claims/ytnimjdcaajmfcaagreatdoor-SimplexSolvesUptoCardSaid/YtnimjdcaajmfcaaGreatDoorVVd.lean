/- A text of the prover's own. -/
import Derived.Test.YtnimjdcaajmfcaaGreatDoorVVx
open Go.Region renaming ready->ayv,binds->ayw,noSelect->ayx,wanted->aym
open Nat renaming lt_or_ge->axT,le_refl->axq,le_trans->ayr,le_max_left->ayy
open Array renaming ext'->axx,replicate->ayz
open List renaming mem_cons->ayn,not_mem_nil->ayA,isEmpty_iff->ayB,contains_iff_mem->ayC,mem_append_right->ayD,mem_append_left->ayE,mem_append->ayp,range->ayq,mem_filter->ayF,all_eq_true->ayG
open Bool renaming and_eq_true->ayt,or_eq_true->ayH
namespace Go.Sv
open Go Go.RowKit
section
variable {P:Program} {ops:Array Oper} {Q:Exit->Act->World->Prop} {G G':Nat->World->World->Prop}
def tV(P:Program)(ops:Array Oper)(Q:Exit->Act->World->Prop)(G:Nat->World->World->Prop):Nat->Array Bool->Act->World->Prop
 | 0,L,a,w=>ayv .any ops L=[]∧Q .normal a w
 | n+1,L,a,w=>(ayv .any ops L=[]->Q .normal a w) ∧
  ∀j∈ayv .any ops L,wpOp P ops Q j (λa' w'=>G j w w'∧tV P ops Q G n (L.setIfInBounds j true) a' w') a w
theorem zc:∀(n:Nat) (L:Array Bool) (a:Act) (w:World),tV P ops Q G n L a w->wpAny P .any ops Q n L a w
 | 0,_,_,_,h=>h
 | n+1,_,_,_,h=>⟨h.1,λi hi=>wpOp_mono (λa' w' h'=>zc n _ a' w' h'.2) (h.2 i hi)⟩
theorem ui{L:Array Bool}{i j:Nat}(h:(L.setIfInBounds i true).getD j true=false):L.getD j true=false:=by
 by_cases e:i=j
 ·subst e;rcases axT i L.size with h' | h'<;>simp[h']at h ⊢
 ·rwa [getD_set_ne true e]at h
theorem oA:∀(n:Nat) (L:Array Bool) (a:Act) (w:World),(∀j w w',L.getD j true=false->G' j w w'->G j w w')->tV P ops Q G' n L a w->tV P ops Q G n L a w
 | 0,_,_,_,_,h=>h
 | n+1,L,_,_,hG,h=>⟨h.1,λi hi=>wpOp_mono (λa' w' h'=>⟨hG i _ _ (mem_ready.1 hi).1 h'.1,oA n _ a' w' (λj w w' hj=>hG j w w' (ui hj)) h'.2⟩) (h.2 i hi)⟩
theorem w8{i:Nat}{oi:Oper}{v:Value}{D:Nat->Bool}{S:World->Prop}(hi:ops[i]?=some oi)(aB:∀(j:Nat) (o:Oper) cs b,ops[j]?=some o->o.op≠.select cs b)
  (hQ:∀c a w,Q (.panic c) (a.put oi.dst v) w->Q (.panic c) a w)
  (hD:∀j oj,D j=true->ops[j]?=some oj->∃e∈oj.after,ayw .any e=true∧(e.on=i∨D e.on=true)) (a9:∀w,S w->G i w w) :
  ∀(n:Nat) (L:Array Bool) (a:Act) (w:World),(∀j w w',j<ops.size->j≠i->D j=false->L.getD j true=false->S w->G j w w'->S w') ->
   (∀j,D j=true->L.getD j true=false) ->
   (∀j oj,ops[j]?=some oj->j≠i->L.getD j true=false->(∀e∈oj.after,ayw .any e=true->e.on≠i)->oi.apart ops oj=true) ->
   i∈ayv .any ops L->YieldsIf P ops S oi v a->S w->tV P ops Q G n (L.setIfInBounds i true) (a.put oi.dst v) w->tV P ops Q G (n+1) L a w:=by
 intro n
 induction n with
 | zero =>
  intro L a w _ _ _ hr hy hS H;refine⟨λh=>(by rw[h]at hr;cases hr),λj hj=>?_⟩;by_cases ap:j=i
  ·subst ap;exact hy.wpOp hi hS ⟨a9 w hS,H⟩
  ·have:=ready_mono hj ap;rw[H.1]at this;cases this
 | succ n ih =>
  intro L a w hG ba ar hr hy hS H;refine⟨λh=>(by rw[h]at hr;cases hr),λj hj=>?_⟩;by_cases ap:j=i
  ·subst ap;exact hy.wpOp hi hS ⟨a9 w hS,H⟩
  have h1:=H.2 j (ready_mono hj ap);obtain⟨aD,oj,au,aE⟩:=mem_ready.1 hj;have bb:∀k,L.getD k true=false->L.getD k false=false:=λk hk=>by rcases axT k L.size with h' | h'<;>simp[h']at hk ⊢;exact hk
  have aF:∀e∈oj.after,ayw .any e=true->e.on≠i:=λe he hb heq=>by have h1:=aE e he hb;rw[heq,bb i (mem_ready.1 hr).1]at h1;cases h1
  have bc:D j=false:=by
   cases hd:D j with
   | false=>rfl
   | true =>
    obtain⟨e,he,hb,h'⟩:=hD j oj hd au;have h1:=aE e he hb;rcases h' with h' | h'
    ·exact absurd h' (aF e he hb)
    ·rw[bb _ (ba _ h')]at h1;cases h1
  have h2:=wpOp_putIf au (ar j oj au ap aD aF) (λcs b=>aB i oi cs b hi) (λcs b=>aB j oj cs b au) hQ hy h1;refine wpOp_mono (λa' w' h3=>⟨h3.2.1,ih (L.setIfInBounds j true) a' w' (λk w w' hs hk hd hl=>hG k w w' hs hk hd (ui hl)) (λk hk=>?_) (λk ok hk bi bk aZ=>?_) (ready_mono hr (Ne.symm ap)) h3.1
   (hG j w w' (Array.getElem?_eq_some_iff.1 au).1 ap bc aD hS h3.2.1) ?_⟩) h2
  ·have aG:j≠k:=λe=>by subst e;rw[bc]at hk;cases hk
   rw[getD_set_ne true aG];exact ba k hk
  ·exact ar k ok hk bi (ui bk) aZ
  ·rw[Array.setIfInBounds_comm _ _ ap];exact h3.2.2
theorem Kf{i:Nat}{n:Nat}{L:Array Bool}{a:Act}{w:World}(hr:ayv .any ops L=[i])
  (h:wpOp P ops Q i (λa' w'=>G i w w'∧tV P ops Q G n (L.setIfInBounds i true) a' w') a w):tV P ops Q G (n+1) L a w :=
 ⟨λh0=>(by rw[hr]at h0;cases h0),λj hj=>(by rw[hr]at hj;simp only[List.mem_singleton]at hj;subst hj;exact h)⟩
theorem Rx{i j:Nat}{n:Nat}{L:Array Bool}{a:Act}{w:World}(hr:ayv .any ops L=[i,j])
  (h:wpOp P ops Q i (λa' w'=>G i w w'∧tV P ops Q G n (L.setIfInBounds i true) a' w') a w)
  (h':wpOp P ops Q j (λa' w'=>G j w w'∧tV P ops Q G n (L.setIfInBounds j true) a' w') a w):tV P ops Q G (n+1) L a w :=
 ⟨λh0=>(by rw[hr]at h0;cases h0),λk hk=>(by rw[hr]at hk;simp only[ayn,ayA,or_false]at hk;rcases hk with rfl | rfl<;>assumption)⟩
theorem KH{l:List Nat}{n:Nat}{L:Array Bool}{a:Act}{w:World}(hr:ayv .any ops L=l)(hl:l≠[])
  (h:∀i∈l,wpOp P ops Q i (λa' w'=>G i w w'∧tV P ops Q G n (L.setIfInBounds i true) a' w') a w):tV P ops Q G (n+1) L a w :=
 ⟨λh0=>(by rw[hr]at h0;exact absurd h0 hl),λk hk=>h k (hr ▸ hk)⟩
theorem Fe:∀(n:Nat) (L:Array Bool) (a:Act) (w:World),tV P ops Q G n L a w->tV P ops Q G (n+1) L a w
 | 0,_,_,_,h=>⟨λ_=>h.2,λj hj=>by rw[h.1]at hj;cases hj⟩
 | n+1,_,_,_,h=>⟨h.1,λj hj=>wpOp_mono (λ_ _ h'=>⟨h'.1,Fe n _ _ _ h'.2⟩) (h.2 j hj)⟩
theorem Ef{n m:Nat}(h:n<=m){L:Array Bool}{a:Act}{w:World}(hw:tV P ops Q G n L a w):tV P ops Q G m L a w:=by
 induction h with
 | refl=>exact hw
 | step _ ih=>exact Fe _ _ _ _ ih
end
def RS(U:Nat->Prop)(w w':World):Prop:=w.heap.size<=w'.heap.size∧∀b,b<w.heap.size->¬U b->w'.heap[b]?=w.heap[b]?
theorem RS.EC{U:Nat->Prop}(w:World):RS U w w:=⟨axq _,λ_ _ _=>rfl⟩
theorem RS.trans{U V:Nat->Prop}{a b c:World}(h:RS U a b)(k:RS V b c)(hv:∀x,x<a.heap.size->V x->U x):RS U a c :=
 ⟨ayr h.1 k.1,λx hx hu=>by rw[k.2 x (Nat.lt_of_lt_of_le hx h.1) (λhV=>hu (hv x hx hV)),h.2 x hx hu]⟩
def tY:Nat:=1000000
def nb(ks:List Nat):List Nat:=ks.filter λk=>k != tY
def Wb(β:cu)(s:Nat)(ks:List Nat)(b:Nat):Prop:=ks≠[]∧(tY∈ks∨s<=b∨∃k∈ks,∃d,β k=some (some d)∧d.b=b)
def uU(H:Hp)(w:World):Prop:=∀b cs,H b=some cs->∃T z,w.heap[b]?=some (.cells cs T z)
def GG(H:Hp)(U:Nat->Prop)(w w':World):Prop:=RS U w w'∧uU H w'
inductive Pl
 | nil
 | q (i:Nat) (ks:List Nat) (r:Pl)
 | l (i:Nat) (ks:List Nat) (r:Pl)
 | m (i:Nat) (ks:List Nat) (r:Pl) (j:Nat) (ae:List Nat) (r':Pl)
 /-- one of some that may come up; the others are told by p -/
 | alt (i:Nat) (ks:List Nat) (r p:Pl)
 | stop
def Pl.qs:List Nat->Pl->Pl
 | [],r=>r
 | i::is,r=>.q i [] (Pl.qs is r)
def one(i:Nat)(ks:List Nat)(j:Nat):List Nat:=if i=j then ks else[]
def Pl.Y:Pl->Nat->List Nat
 | .nil,_=>[]
 | .stop,_=>[]
 | .alt i ks r p,x=>one i ks x++(r.Y x++p.Y x)
 | .q _ _ r,x=>r.Y x
 | .l i ks r,x=>one i ks x++r.Y x
 | .m i ks r j ae r',x=>one i ks x++(one j ae x++(r.Y x++r'.Y x))
def Pl.s7:Pl->List Nat
 | .alt i _ _ p=>i::p.s7
 | _=>[]
def Pl.len:Pl->Nat
 | .alt _ _ r p=>max (r.len+1) p.len
 | .stop=>0
 | .nil=>0
 | .q _ _ r=>r.len+1
 | .l _ _ r=>r.len+1
 | .m _ _ r _ _ r'=>max r.len r'.len+1
def Pl.mq:Pl->Bool
 | .nil=>true
 | .stop=>true
 | .alt _ ks r p=>(ks.isEmpty||ks.contains tY)&&(r.mq&&p.mq)
 | .q _ _ r=>r.mq
 | .l _ ks r=>(ks.isEmpty||ks.contains tY)&&r.mq
 | .m _ ks r _ ae r'=>(ks.isEmpty||ks.contains tY)&&((ae.isEmpty||ae.contains tY)&&(r.mq&&r'.mq))
theorem Pl.tM:∀(pl:Pl),pl.mq=true->∀j,pl.Y j≠[]->tY∈pl.Y j
 | .nil,_,j,h=>absurd rfl h
 | .stop,_,j,h=>absurd rfl h
 | .alt i ks r p,h,j,hn=>by
  simp only[Pl.mq,ayt,ayH,ayB,ayC]at h;simp only[Pl.Y,one]at hn ⊢;by_cases hr:r.Y j=[]
  ·by_cases aH:p.Y j=[]
   ·rw[hr,aH]at hn ⊢;split at hn
    ·rename_i e;rw[if_pos e];rcases h.1 with h1 | h1
     ·simp[h1]at hn
     ·simp[h1]
    ·simp at hn
   ·exact ayD _ (ayD _ (p.tM h.2.2 j aH))
  ·exact ayD _ (ayE _ (r.tM h.2.1 j hr))
 | .q _ _ r,h,j,hn=>r.tM h j hn
 | .l i ks r,h,j,hn=>by
  simp only[Pl.mq,ayt,ayH,ayB,ayC]at h;simp only[Pl.Y,one]at hn ⊢;by_cases hr:r.Y j=[]
  ·rw[hr]at hn ⊢;split at hn
   ·rename_i e;rw[if_pos e];rcases h.1 with h1 | h1
    ·simp[h1]at hn
    ·simp[h1]
   ·simp at hn
  ·exact ayD _ (r.tM h.2 j hr)
 | .m i ks r i' ae r',h,j,hn=>by
  simp only[Pl.mq,ayt,ayH,ayB,ayC]at h;simp only[Pl.Y,one]at hn ⊢;by_cases hr:r.Y j=[]
  ·by_cases aH:r'.Y j=[]
   ·rw[hr,aH]at hn ⊢;simp only[List.append_nil,ayp]at hn ⊢;split
    ·rename_i e;rcases h.1 with h1 | h1
     ·subst h1;split
      ·rename_i e';rcases h.2.1 with h2 | h2
       ·subst h2;simp at hn
       ·exact .inr h2
      ·rename_i e';simp[e']at hn
     ·exact .inl h1
    ·rename_i e;split
     ·rename_i e';rcases h.2.1 with h2 | h2
      ·subst h2;simp[e]at hn
      ·exact .inr h2
     ·rename_i e';simp[e,e']at hn
   ·exact ayD _ (ayD _ (ayD _ (r'.tM h.2.2.2 j aH)))
  ·exact ayD _ (ayD _ (ayE _ (r.tM h.2.2.1 j hr)))
def y7:Op->Bool
 | .store .. | .alloc .. | .box .. | .buildSlice .. | .makeSlice .. | .call ⟨.value _,_,_⟩ | .call ⟨.builtin .append,_,_⟩ | .call ⟨.builtin .copy,_,_⟩
 | .lookup .. | .mapUpdate .. | .insert .. | .mapEntry .. | .entryStore .. | .makeMap ..=>false
 | _=>true
def QT(ops:Array Oper)(i:Nat):List Nat:=(ayq ops.size).foldl (λacc j=>match ops[j]? with
 | some o=>if o.after.any (λe=>ayw .any e&&(e.on==i||acc.contains e.on)) then acc++[j] else acc
 | none=>acc) []
def Vr(ops:Array Oper)(L:Array Bool)(i:Nat)(ks:List Nat)(Y:Nat->List Nat):Bool :=
 (match ops[i]? with
   | some o=>y7 o.op
   | none=>false)&&(Region.free .any ops L i&&((ayv .any ops L).contains i &&
   ((
    (QT ops i).all λj=>!L.getD j true&&match ops[j]? with
    | some o=>o.after.any λe=>ayw .any e&&(e.on==i||(QT ops i).contains e.on)
    | none=>false) &&
   (match ops[i]? with
   | some ⟨_,.load _ _,_,_,_,_⟩=>(ayq ops.size).all λj=>j==i||(L.getD j true||((QT ops i).contains j||(Y j).all λk=>ks.contains k))
   | _=>true))))
mutual
def ay(ops:Array Oper):Array Bool->Pl->Bool
 | _,.stop=>false
 | L,.alt i _ r p=>ayv .any ops L==i::p.s7&&(ay ops (L.setIfInBounds i true) r&&jJ ops L p)
 | L,.nil=>(ayv .any ops L).isEmpty
 | L,.l i _ r=>ayv .any ops L==[i]&&ay ops (L.setIfInBounds i true) r
 | L,.m i _ r j _ r'=>ayv .any ops L==[i,j]&&(ay ops (L.setIfInBounds i true) r&&ay ops (L.setIfInBounds j true) r')
 | L,.q i ks r=>Vr ops L i ks r.Y&&ay ops (L.setIfInBounds i true) r
def jJ(ops:Array Oper):Array Bool->Pl->Bool
 | _,.stop=>true
 | L,.alt i _ r p=>ay ops (L.setIfInBounds i true) r&&jJ ops L p
 | _,.nil=>false
 | _,.l _ _ _=>false
 | _,.m _ _ _ _ _ _=>false
 | _,.q _ _ _=>false
end
def cj(P:Program)(C:Ctx)(ops:Array Oper)(pl:Pl)(st:St)(Q:bf):Prop :=
 ayx ops=true->∀L,ay ops L pl=true->∀β H a w,jl β H st.n st.fr a->cM C β H st.M w->tV P ops (QQ C Q) (λj w1 w2=>GG H (Wb β w.heap.size (pl.Y j)) w1 w2) pl.len L a w
def C7(M:aC)(k:Nat):Prop:=match aA M k with
 | some e=>e.fz=false
 | none=>False
def cvW(x:Option SV):Prop:=match x with
 | some (.view _ _ _)=>False
 | _=>True
def Tf(x:Option SV):Prop:=match x with
 | some (.mp _)=>False
 | some (.val (.map none))=>False
 | _=>True
def Qe(l:List (Option SV)):Prop:=match l with
 | [x]=>Tf x
 | _=>True
def H8(ks:List Nat)(st:St)(o:Op):Prop :=
 match o with
 | .load _ x=>ks=[]∨match ev st.fr x with
  | some (.ptr k _ _)=>k∉ks∧tY∉ks∧∀j∈ks,C7 st.M j
  | some (.dG _ _)=>True
  | _=>False
 | .convert _ _ x=>cvW (ev st.fr x)
 | .call ⟨.builtin .len,args,_⟩=>Qe (args.toList.map (ev st.fr))
 | _=>True
def okW(ks:List Nat)(st:St)(o:Op):Prop :=
 match o with
 | .store t x y=>∀k∈Ds st.fr (.store t x y),k∈ks
 | .call ⟨.builtin .copy,args,ts⟩=>∀k∈Ds st.fr (.call ⟨.builtin .copy,args,ts⟩),k∈ks
 | .mapUpdate _ m _ _=>∀k∈MV (ev st.fr m),k∈ks
 | .insert _ m _ _=>∀k∈MV (ev st.fr m),k∈ks
 | .mapEntry _ m _=>∀k∈MV (ev st.fr m),k∈ks
 | .entryStore _ m _ _=>∀k∈MV (ev st.fr m),k∈ks
 | _=>True
def Lr(args:Array Operand):Bool:=match args.toList with
 | .const (.slice none 0 0)::_=>true
 | _=>false
def AD(ks:List Nat)(r:Pl)(o:Op):Prop :=
 match o with
 | .call ⟨.builtin .append,args,_⟩=>Lr args=true∨(tY∈ks∧r.mq=true)
 | _=>True
def Pl.there(M:aC):Pl->Prop
 | .nil=>True
 | .stop=>True
 | .alt _ ks r p=>(tY∈ks∨∀k∈ks,aA M k≠none)∧r.there M∧p.there M
 | .q _ _ r=>r.there M
 | .l _ ks r=>(tY∈ks∨∀k∈ks,aA M k≠none)∧r.there M
 | .m _ ks r _ ae r'=>(tY∈ks∨∀k∈ks,aA M k≠none)∧(tY∈ae∨∀k∈ae,aA M k≠none)∧r.there M∧r'.there M
theorem Pl.qc{M:aC}:∀(pl:Pl),pl.there M->∀j,∀k∈pl.Y j,tY∈pl.Y j∨aA M k≠none
 | .nil,_,j,k,hk=>by simp[Pl.Y]at hk
 | .stop,_,j,k,hk=>by simp[Pl.Y]at hk
 | .alt i ks r p,h,j,k,hk=>by
  simp only[Pl.Y,ayp,one]at hk ⊢;rcases hk with hk | hk | hk
  ·split at hk
   ·rename_i e;simp only[e,if_true];exact h.1.imp .inl λh=>h k hk
   ·cases hk
  ·exact(r.qc h.2.1 j k hk).imp (λh=>.inr (.inl h)) id
  ·exact(p.qc h.2.2 j k hk).imp (λh=>.inr (.inr h)) id
 | .q _ _ r,h,j,k,hk=>r.qc h j k hk
 | .l i ks r,h,j,k,hk=>by
  simp only[Pl.Y,ayp,one]at hk ⊢;rcases hk with hk | hk
  ·split at hk
   ·rename_i e;simp only[e,if_true];exact h.1.imp .inl λh=>h k hk
   ·cases hk
  ·exact(r.qc h.2 j k hk).imp .inr id
 | .m i ks r i' ae r',h,j,k,hk=>by
  simp only[Pl.Y,ayp,one]at hk ⊢;rcases hk with hk | hk | hk | hk
  ·split at hk
   ·rename_i e;simp only[e,if_true];exact h.1.imp .inl λh=>h k hk
   ·cases hk
  ·split at hk
   ·rename_i e;simp only[e,if_true];exact h.2.1.imp (λh=>.inr (.inl h)) λh=>h k hk
   ·cases hk
  ·exact(r.qc h.2.2.1 j k hk).imp (λh=>.inr (.inr (.inl h))) id
  ·exact(r'.qc h.2.2.2 j k hk).imp (λh=>.inr (.inr (.inr h))) id
section
variable {P:Program} {C:Ctx} {ops:Array Oper} {L:Array Bool} {Q QJ:bf} {st:St} {β:cu} {H:Hp} {a:Act} {w:World}
theorem Jk{M:aC}{ti:Option TI}{x:Option SV}{u:Value}{c:Prop}{r:SV}(hW:cM C β H M w)(h:jx M ti x=.q c r)(hx:∀s,x=some s->Den β H s u) :
  ∃b o p,u=.pointer (some ⟨b,o,p⟩)∧b<w.heap.size∧((∃k i j d e,x=some (.ptr k i j)∧β k=some (some d)∧d.b=b∧aA M k=some e)∨(∃y j cs,x=some (.dG y j)∧H b=some cs)):=by
 unfold jx at h;split at h
 ·rename_i ti k i j;have hu:=hx _ rfl;simp only[Den]at hu;obtain⟨d,hd,rfl⟩:=hu;split at h
  ·rename_i e he;exact⟨_,_,_,rfl,hW.lt (aU he) hd,.inl ⟨k,i,j,d,e,rfl,hd,rfl,he⟩⟩
  ·cases h
 ·rename_i ti x j;have hu:=hx _ rfl;simp only[Den]at hu;obtain⟨b,o,cs,v,rfl,h2,h3,h4⟩:=hu;exact⟨_,_,_,rfl,hW.aR h2,.inr ⟨x,j,cs,rfl,h2⟩⟩
 ·cases h
theorem HL{ks:List Nat}{o:Oper}{c:Prop}{x:SV}{U:Nat->Prop}(hW:cM C β H st.M w)(hF:jl β H st.n st.fr a)(hq:EZ P st.M st.fr o.op=.q c x)(hc:c)(hi:H8 ks st o.op)
  (hU:(∃t x,o.op=.load t x)->∀b,U b->b<w.heap.size->tY∈ks∨∃k∈ks,∃d,β k=some (some d)∧d.b=b) :
  ∃v,(∀w',(RS U w w'∧uU H w')->(execOp a.eval o).run P w'=.ok (.value v) w')∧Den β H x v:=by
 by_cases hl:∃t x,o.op=.load t x
 ·obtain⟨t,y,ho⟩:=hl;obtain⟨dst,op,type,pos,after,guard⟩:=o;simp only at ho;subst ho;simp only[EZ]at hq;by_cases hr:∃y' j',ev st.fr y=some (.dG y' j')
  ·obtain⟨y',j',hr⟩:=hr;have af:=nG hF y _ hr;rw[hr]at hq;obtain⟨z,h1,h2⟩:=Jr (P:=P) hq hc af;refine⟨z,λw' hs=>?_,h2⟩;have:=h1 w' hs.2;simp[execOp,this]
  ·obtain⟨z,h1,h2⟩:=xk (P:=P) hW hq hc (nG hF y);obtain⟨b,o,p,hu,hb,hk⟩:=Jk hW hq (nG hF y);refine⟨z,λw' hs=>?_,h2⟩;have:=h1 w' (λb' o' p' he=>by
    rw[hu]at he;simp only[Value.pointer.injEq,Option.some.injEq]at he;cases he;refine hs.1.2 b hb (λbd=>?_);rcases hk with⟨k,i,j,d,e,hx,hd,a0,he⟩ | ⟨y',j,cs,hx,hH⟩
    ·simp only[H8,hx]at hi;rcases hi with rfl | ⟨aG,a1,bl⟩
     ·rcases hU ⟨_,_,rfl⟩ b bd hb with h | ⟨k',aT,_⟩
      ·cases h
      ·cases aT
     ·rcases hU ⟨_,_,rfl⟩ b bd hb with h | ⟨k',aT,d',av,bm⟩
      ·exact a1 h
      ·have hl:=bl k' aT;unfold C7 at hl;split at hl
       ·rename_i e' bn;have:=hW.inj k k' e e' d d' (aU he) (aU bn) hd av (a0.trans bm.symm);subst this;exact aG aT
       ·exact hl.elim
    ·exact hr ⟨y',j,hx⟩)
   simp[execOp,this]
 ·by_cases be:∃s d x el a b z,o.op=.convert s d x∧an P s=some ⟨.sl el,a,b,z⟩
  ·obtain⟨s,d,y,el,a',b,z,ho,bo⟩:=be;obtain⟨dst,op,type,pos,after,guard⟩:=o;simp only at ho;subst ho;obtain⟨v,h1,h2,h3⟩:=Hb hW hF hq hc bo;refine⟨v,λw' hs=>h3 (λk i n e=>?_) w' hs.2,h2⟩;simp only[H8,e,cvW]at hi
  ·obtain⟨v,h1,h2⟩:=Cx (P:=P) hW.wE hF hq hc (λt x e=>hl ⟨t,x,e⟩) (λs d x e el a' b z e'=>be ⟨s,d,x,el,a',b,z,e,e'⟩);exact⟨v,λw' _=>h1 w',h2⟩
def gd(ops:Array Oper)(o:Oper)(st:St)(yes no:St->Prop):Prop :=
 match o.guard with
 | none=>yes st
 | some (j,b)=>match rK ops j with
  | some t=>match get st.fr t with
   | some (.val (.bool c))=>(c=b->yes ⟨st.n,(t,.val (.bool b))::st.fr,st.M⟩)∧(c=!b->no ⟨st.n,fO st.n o.dst ((t,.val (.bool (!b)))::st.fr),st.M⟩)
   | some (.bM [])=>no ⟨st.n,fO st.n o.dst st.fr,st.M⟩
   | _=>False
  | none=>False
theorem P2{o:Oper}{yes no:St->Prop}(h:gd ops o st yes no)(hF:jl β H st.n st.fr a) :
  (aym o (yielded ops a.tmps)=true∧∃fr,jl β H st.n fr a∧yes ⟨st.n,fr,st.M⟩)∨(aym o (yielded ops a.tmps)=false∧∃fr,jl β H st.n fr (a.put o.dst undef)∧no ⟨st.n,fr,st.M⟩):=by
 unfold gd at h;split at h
 ·rename_i hg;exact .inl ⟨by simp[aym,hg],_,hF,h⟩
 ·rename_i j b hg;split at h
  ·rename_i t ht;split at h
   ·rename_i c hc;obtain⟨v,hv,af⟩:=hF.2.2 t _ hc;simp only[Den]at af;obtain⟨rfl, -⟩:=af;have hy:yielded ops a.tmps j=some c:=by
     unfold yielded;simp only[rK]at ht;rw[ht];simp[hv]
    have aI:∀b',c=b'->jl β H st.n ((t,.val (.bool b'))::st.fr) a:=λb' hb=>by
     subst hb;refine hF.sub λt' x' aJ=>?_;simp only[get]at aJ;split at aJ
     ·rename_i e;subst e;simp only[Option.some.injEq]at aJ;subst aJ;exact hc
     ·exact aJ
    by_cases aV:c=b
    ·exact .inl ⟨by simp[aym,hg,hy,aV],_,aI b aV,h.1 aV⟩
    ·have aK:c=!b:=by cases c<;>cases b<;>simp_all
     exact .inr ⟨by simp[aym,hg,hy,aV],_,(aI _ aK).fO o.dst,h.2 aK⟩
   ·rename_i hc;obtain⟨v,hv,af⟩:=hF.2.2 t _ hc;obtain rfl:=z9 af;have hy:yielded ops a.tmps j=none:=by
     unfold yielded;simp only[rK]at ht;rw[ht];simp[hv]
    exact .inr ⟨by simp[aym,hg,hy],_,hF.fO o.dst,h⟩
   ·exact h.elim
  ·exact h.elim
theorem w5{fx:List Nat}{fr:List (Nat × SV)}{M:aC}{o:Op}(h:y7 o=true)(hl:∀args ts,o=.call ⟨.builtin .len,args,ts⟩->Qe (args.toList.map (ev fr))):HO P fx M fr o=.stuck∧∀f args ts,o≠.call ⟨.value f,args,ts⟩:=by
 unfold y7 at h;split at h;all_goals first | (cases h;done) | skip
 rename_i h1 h2 h3 h4 h5 h6 h7 h8 h9 bp bq br bs bt;refine⟨?_,λf args ts e=>h6 _ _ _ e⟩;unfold HO;split<;>first | rfl | (exfalso;first | exact h1 _ _ _ rfl | exact h2 _ rfl | exact h3 _ _ rfl | exact h4 _ _ _ rfl | exact h5 _ _ _ rfl | exact h7 _ _ rfl | exact h8 _ _ rfl | exact h9 _ _ _ _ rfl | exact bp _ _ _ _ rfl | exact bq _ _ _ _ rfl | exact br _ _ _ rfl | exact bs _ _ _ _ rfl | exact bt _ _ rfl) | skip
 rename_i args ts;have:=hl _ _ rfl;split
 ·rename_i x hx;rw[hx]at this;simp only[List.map_cons,List.map_nil,Qe]at this;unfold gQ;split
  ·rename_i he;rw[he]at this;exact this.elim
  ·rename_i he;rw[he]at this;exact this.elim
  ·rfl
 ·rfl
theorem tR{o:Oper}{ks:List Nat}{W:Option (List Nat)}{next ad:St->Prop}(hq:y7 o.op=true)(hi:H8 ks st o.op)(h:cO P C W o st next ad):∃c x,EZ P st.M st.fr o.op=.q c x∧c∧BV o.dst st.n∧next ⟨st.n,fg o.dst (some x) st.fr,st.M⟩:=by
 have hl:∀args ts,o.op=.call ⟨.builtin .len,args,ts⟩->Qe (args.toList.map (ev st.fr)):=λargs ts e=>by rw[e]at hi;exact hi
 unfold cO at h;split at h
 ·rename_i c x hx;exact⟨c,x,hx,h⟩
 ·rw[(w5 hq hl).1]at h;simp only at h;split at h
  ·rename_i f args ts ac;exact absurd ac ((w5 (P:=P) (fx:=[]) (fr:=st.fr) (M:=st.M) hq hl).2 _ _ _)
  ·rename_i f args ts ac;exact absurd ac ((w5 (P:=P) (fx:=[]) (fr:=st.fr) (M:=st.M) hq hl).2 _ _ _)
  ·exact h.elim
theorem Gt{M:aC}{ti:Option TI}{x i:Option SV}{ok:Bool}{c:Prop}{M':aC}{pk:List Nat}{r:Option SV}(h:mc P M ti x i ok=.m c M' pk r):pk=[]:=by
 unfold mc ZY lkN U2 at h
 repeat' split at h
 all_goals first | (simp only[cK.m.injEq]at h;exact h.2.2.1.symm) | cases h
theorem yg{M:aC}{ti:Option TI}{x i y:Option SV}{c:Prop}{M':aC}{pk:List Nat}{r:Option SV}(h:kO P M ti x i y=.m c M' pk r):pk=[]:=by
 unfold kO Y6 Y9 at h
 repeat' split at h
 all_goals first | (simp only[cK.m.injEq]at h;exact h.2.2.1.symm) | cases h
theorem B4{M:aC}{ti:Option TI}{x i:Option SV}{c:Prop}{M':aC}{pk:List Nat}{r:Option SV}(h:mB P M ti x i=.m c M' pk r):pk=[]:=by
 unfold mB enE enR at h
 repeat' split at h
 all_goals first | (simp only[cK.m.injEq]at h;exact h.2.2.1.symm) | cases h
theorem yC{M:aC}{x i y:Option SV}{c:Prop}{M':aC}{pk:List Nat}{r:Option SV}(h:jP M x i y=.m c M' pk r):pk=[]:=by
 unfold jP esE at h
 repeat' split at h
 all_goals first | (simp only[cK.m.injEq]at h;exact h.2.2.1.symm) | cases h
theorem DO{M:aC}{ti:Option TI}{x:Option (Option SV)}{c:Prop}{M':aC}{pk:List Nat}{r:Option SV}(h:ki M ti x=.m c M' pk r):pk=[]:=by
 unfold ki at h
 repeat' split at h
 all_goals first | (simp only[cK.m.injEq]at h;exact h.2.2.1.symm) | cases h
theorem FG{M:aC}{ti:Option TI}{x:Option SV}{c:Prop}{M':aC}{pk:List Nat}{r:Option SV}(h:gQ M ti x=.m c M' pk r):pk=[]:=by
 unfold gQ YS at h
 repeat' split at h
 all_goals first | (simp only[cK.m.injEq]at h;exact h.2.2.1.symm) | cases h
theorem Vb{fr:List (Nat × SV)}{M M':aC}{o:Op}{c:Prop}{pk:List Nat}{x:Option SV}(ha:∀args ts,o≠.call ⟨.builtin .append,args,ts⟩){fx:List Nat}(h:HO P fx M fr o=.m c M' pk x):pk=[]:=by
 unfold HO at h;split at h
 ·unfold pE at h;split at h
  ·split at h
   ·simp only[cK.m.injEq]at h;exact h.2.2.1.symm
   ·cases h
  ·cases h
 ·unfold sK at h;split at h
  ·simp only[cK.m.injEq]at h;exact h.2.2.1.symm
  ·cases h
 ·unfold Db at h;split at h
  ·simp only[cK.m.injEq]at h;exact h.2.2.1.symm
  ·cases h
 ·unfold gI at h;split at h
  ·split at h
   ·split at h
    ·split at h
     ·simp only[cK.m.injEq]at h;exact h.2.2.1.symm
     ·cases h
    ·cases h
   ·cases h
  ·cases h
 ·unfold iA at h;split at h
  ·split at h
   ·simp only[cK.m.injEq]at h;exact h.2.2.1.symm
   ·cases h
  ·cases h
 ·exact absurd rfl (ha _ _)
 ·split at h
  ·unfold D4 at h;split at h
   ·split at h
    ·split at h
     ·simp only[cK.m.injEq]at h;exact h.2.2.1.symm
     ·cases h
    ·cases h
   ·cases h
  ·cases h
 ·exact Gt h
 ·exact yg h
 ·exact yg h
 ·exact B4 h
 ·exact yC h
 ·exact DO h
 ·split at h
  ·exact FG h
  ·cases h
 ·cases h
def fQ(P:Program)(C:Ctx)(ops:Array Oper):Pl->St->bf->bf->Prop
 | .stop,_,_,_=>True
 | .alt i ks r p,st,Q,QJ=>(match ops[i]? with
  | none=>False
  | some o=>gd ops o st (λst'=>((okW ks st' o.op∧AD ks r o.op)∧r.there st'.M)∧cO P C (some (nb ks)) o st' (λab=>fQ P C ops r ab Q QJ) (λab=>fQ P C ops r ab QJ QJ)) (λst'=>fQ P C ops r st' Q QJ))∧fQ P C ops p st Q QJ
 | .nil,st,Q,_=>Q .normal st
 | .q i ks r,st,Q,QJ=>match ops[i]? with
  | none=>False
  | some o=>gd ops o st (λst'=>H8 ks st' o.op∧cO P C none o st' (λab=>fQ P C ops r ab Q QJ) (λ_=>False)) (λst'=>fQ P C ops r st' Q QJ)
 | .l i ks r,st,Q,QJ=>match ops[i]? with
  | none=>False
  | some o=>gd ops o st (λst'=>((okW ks st' o.op∧AD ks r o.op)∧r.there st'.M)∧cO P C (some (nb ks)) o st' (λab=>fQ P C ops r ab Q QJ) (λab=>fQ P C ops r ab QJ QJ)) (λst'=>fQ P C ops r st' Q QJ)
 | .m i ks r j ae r',st,Q,QJ=>match ops[i]?,ops[j]? with
  | some o,some o'=>gd ops o st (λst'=>((okW ks st' o.op∧AD ks r o.op)∧r.there st'.M)∧cO P C (some (nb ks)) o st' (λab=>fQ P C ops r ab Q QJ) (λab=>fQ P C ops r ab QJ QJ)) (λst'=>fQ P C ops r st' Q QJ) ∧
   gd ops o' st (λst'=>((okW ae st' o'.op∧AD ae r' o'.op)∧r'.there st'.M)∧cO P C (some (nb ae)) o' st' (λab=>fQ P C ops r' ab Q QJ) (λab=>fQ P C ops r' ab QJ QJ)) (λst'=>fQ P C ops r' st' Q QJ)
  | _,_=>False
theorem RS.mono{U V:Nat->Prop}{w':World}(h:RS U w w')(hv:∀b,b<w.heap.size->U b->V b):RS V w w':=⟨h.1,λb hb hn=>h.2 b hb λhu=>hn (hv b hb hu)⟩
theorem Wb.mono{s:Nat}{ks ae:List Nat}{b:Nat}(h:Wb β s ks b)(hk:∀k∈ks,k∈ae):Wb β s ae b:=by
 obtain⟨h1,h2⟩:=h;refine⟨λe=>?_,h2.imp (hk _) (Or.imp id λ⟨k,h3,h4⟩=>⟨k,hk k h3,h4⟩)⟩;cases ks with
 | nil=>exact h1 rfl
 | cons k r=>have:=hk k (by simp);rw[e]at this;cases this
theorem Wb.back{H':Hp}{β':cu}{w':World}{ks ae:List Nat}{b:Nat}(hW:cM C β H st.M w)(hβ:(∀k d,β k=some d->β' k=some d)∨(ks≠[]->tY∈ks))(hs:w.heap.size<=w'.heap.size)(a2:∀k∈ks,tY∈ks∨aA st.M k≠none)
  (hk:∀k∈ks,k∈ae) (h:Wb β' w'.heap.size ks b):Wb β w.heap.size ae b:=by
 refine Wb.mono ?_ hk;obtain⟨h1,h2⟩:=h;refine⟨h1,?_⟩;rcases h2 with h2 | h2 | ⟨k,h3,d,h4,h5⟩
 ·exact .inl h2
 ·exact .inr (.inl (ayr hs h2))
 ·rcases hβ with hβ | hβ
  ·rcases a2 k h3 with hb | aG
   ·exact .inl hb
   ·refine .inr (.inr ⟨k,h3,d,?_,h5⟩);cases he:aA st.M k with
    | none=>exact absurd he aG
    | some e =>
     rcases hW.dF k e (aU he)with⟨h6, -⟩ | ⟨d',_,_,_,h6, -⟩ | ⟨d',_,h6, -⟩
     ·rw[hβ k _ h6]at h4;simp at h4
     ·rw[hβ k _ h6]at h4;rw[h6];exact h4
     ·rw[hβ k _ h6]at h4;rw[h6];exact h4
  ·exact .inl (hβ h1)
theorem uU.mono{H H':Hp}{w:World}(h:uU H' w)(hH:∀b cs,H b=some cs->H' b=some cs):uU H w:=λb cs hb=>h b cs (hH b cs hb)
theorem KC{fr:List (Nat × SV)}{M M':aC}{args:Array Operand}{ts:Array TypeId}{c:Prop}{pk:List Nat}{x:Option SV}{fx:List Nat}(hn:Lr args=true)(h:HO P fx M fr (.call ⟨.builtin .append,args,ts⟩)=.m c M' pk x) :
  pk=[M.length]∧Ds fr (.call ⟨.builtin .append,args,ts⟩)=[]:=by
 unfold Lr at hn;split at hn
 ·rename_i l hl;unfold HO at h;simp only[hl]at h;split at h
  ·rename_i b x' hb;simp only[List.cons.injEq]at hb;obtain⟨rfl,hb⟩:=hb;have ew:Ds fr (.call ⟨.builtin .append,args,ts⟩)=[]:=by
    simp only[Ds,hl,hb];rfl
   refine⟨?_,ew⟩;unfold jf lT at h;split at h
   ·rename_i hv;simp[ev,D5]at hv
   ·split at h
    ·split at h
     ·simp only[cK.m.injEq]at h;rw[<-h.2.2.1,Ge]
     ·cases h
    ·cases h
   ·cases h
  ·cases h
 ·cases hn
theorem Th{o:Oper}{ks Yi:List Nat}{Y':Nat->List Nat}{r:Pl}{L':Array Bool}{next ad:St->Prop}(ag:ayx ops=true)(aW:ay ops L' r=true)(hn:∀st',next st'->cj P C ops r st' QJ)(aX:∀st',ad st'->cj P C ops r st' QJ)(ah:okW ks st o.op)(aq:AD ks r o.op)
  (a2:r.there st.M) (h:cO P C (some (nb ks)) o st next ad) (hF:jl β H st.n st.fr a) (hW:cM C β H st.M w) (am:∀k∈ks,k∈Yi) (hY:∀j,∀k∈r.Y j,k∈Y' j) :
  o.wp P a w (λa' w'=>GG H (Wb β w.heap.size Yi) w w'∧tV P ops (QQ C QJ) (λj w1 w2=>GG H (Wb β w.heap.size (Y' j)) w1 w2) r.len L' a' w') (QQ C QJ):=by
 have tail:∀{β' H' a' w' st'},cj P C ops r st' QJ->jl β' H' st'.n st'.fr a'->cM C β' H' st'.M w'->((∀k d,β k=some d->β' k=some d)∨r.mq=true)->(∀b cs,H b=some cs->H' b=some cs)->w.heap.size<=w'.heap.size ->
   tV P ops (QQ C QJ) (λj w1 w2=>GG H (Wb β w.heap.size (Y' j)) w1 w2) r.len L' a' w':=λ{β' H' a' w' st'} hp aj bu hβ hH hs=>by
  refine oA _ _ _ _ (λj w1 w2 _ hr=>⟨hr.1.mono λb _ hb=>?_,hr.2.mono hH⟩) (hp ag L' aW β' H' a' w' aj bu);exact Wb.back (H':=H') (w':=w') hW (hβ.imp id λh=>r.tM h j) hs (r.qc a2 j) (hY j) hb
 unfold cO at h;split at h
 ·rename_i c x hq;obtain⟨hc,hd,aL⟩:=h;obtain⟨v,h1,h2⟩:=Nm hW hF hq hc;simp only[Oper.wp,h1,Oper.upon];exact⟨⟨RS.EC w,hW.inv⟩,tail (hn _ aL) (hF.fg hd h2) hW (.inl λ_ _ h=>h) (λ_ _ h=>h) (axq _)⟩
 ·split at h
  ·rename_i c M' pk x hm;obtain⟨hc,hd,aL⟩:=h;obtain⟨nx,v,w',β',h1,h2,h3,h4,h5,h6,h7⟩:=Og hW hF hm hc hd;have hβ:(∀k d,β k=some d->β' k=some d)∨r.mq=true:=by
    by_cases aM:∃args ts,o.op=.call ⟨.builtin .append,args,ts⟩
    ·obtain⟨args,ts,e⟩:=aM;rw[e]at aq hm;rcases aq with aw | aq
     ·have a3:=(KC aw hm).1;subst a3;refine .inl λk d hk=>h5 k d ?_ hk;intro aN;simp only[ayn,ayA,or_false]at aN;subst aN;rw[hW.fresh _ (axq _)]at hk;cases hk
     ·exact .inr aq.2
    ·have a3:=Vb (λargs ts e=>aM ⟨args,ts,e⟩) hm;subst a3;exact .inl λk d hk=>h5 k d (by simp) hk
   have bv:RS (Wb β w.heap.size Yi) w w':=by
    refine⟨h6,λb hb hu=>h7 b hb λk hk d av e=>?_⟩;by_cases aM:∃args ts,o.op=.call ⟨.builtin .append,args,ts⟩
    ·obtain⟨args,ts,e⟩:=aM;rw[e]at aq hm hk;rcases aq with aw | aq
     ·rw[(KC aw hm).2]at hk;cases hk
     ·exact hu ⟨λe'=>(by have:=am _ aq.1;rw[e']at this;cases this),.inl (am _ aq.1)⟩
    ·have bg:∀k∈Ds st.fr o.op,k∈ks:=by
      unfold okW at ah;unfold Ds;split
      ·rename_i t' x' y' ac;rw[ac]at ah;simpa[Ds]using ah
      ·rename_i aO bw ac;exact absurd ⟨_,_,ac⟩ aM
      ·rename_i aO bw ac;rw[ac]at ah;simpa[Ds]using ah
      ·rename_i ac;rw[ac]at ah;exact ah
      ·rename_i ac;rw[ac]at ah;exact ah
      ·rename_i ac;rw[ac]at ah;exact ah
      ·rename_i ac;rw[ac]at ah;exact ah
      ·intro k hk;cases hk
     exact hu ⟨λe'=>(by have:=am k (bg k hk);rw[e']at this;cases this),.inr (.inr ⟨k,am k (bg k hk),d,av,e.symm⟩)⟩
   simp only[Oper.wp,h1];rcases h2 with rfl | ⟨rfl,rfl⟩<;>simp only[Oper.upon]<;>exact⟨⟨bv,h3.inv⟩,tail (hn _ aL) h4 h3 hβ (λ_ _ h=>h) h6⟩
  ·split at h
   ·rename_i f args ts ac;split at h
    ·rename_i xs a4;obtain⟨hf,hd,ak⟩:=h;have ax:(execOp a.eval o).run P w=.ok (.enter f (args.map a.eval)) w:=by
      obtain⟨dst,op,type,pos,after,guard⟩:=o;simp only at ac;subst ac;simp only[execOp,resolve,Act.eval,Deferred.ofValue,Sem.run_bind,Sem.run_pure,Result.andThen_ok,invoke];simpa using hf (args.map a.eval) w
     simp only[Oper.wp,ax,Oper.upon];have al:=m9 hF _ _ a4;have:=ak β H w _ al hW;rw[show(args.toList.map a.eval).toArray=args.map a.eval from by apply axx;simp]at this;refine Calls.mono this ?_;rintro e w' ⟨β',H',M',v,x,pk,rfl,g1,g2,g3,g4,g5,g6,g7⟩;obtain⟨rfl,g8⟩:=g7 (nb ks) rfl;rw[dI]at g5;have aQ:∀k d,β k=some d->β' k=some d:=λk d h=>g3 k d (by simp) h;have aS:∀k∈nb ks,k∈ks:=λk hk=>(ayF.1 hk).1;refine⟨⟨⟨g6,λb hb hu=>g8 b hb λk hk d av e=>hu ⟨λe'=>(by have:=am k (aS k hk);rw[e']at this;cases this),.inr (.inr ⟨k,am k (aS k hk),d,av,e.symm⟩)⟩⟩,uU.mono (H':=H') g2.inv g4⟩,?_⟩;exact tail (aX _ g5) ((hF.mono aQ g4).fg hd g1) g2 (.inl aQ) g4 g6
    ·exact h.elim
   ·rename_i t args ts ac;split at h
    ·rename_i f l r' xs bx a4;obtain⟨hf,hd,ak⟩:=h;obtain⟨vf,hv,af⟩:=hF.2.2 t _ bx;simp only[Den]at af;obtain⟨vl,vr,rfl,bz,bA⟩:=af;have bB:a.eval (.tmp t)=.func (.func f) vl.toArray vr.toArray:=by
      simp only[Act.eval,Array.getD_eq_getD_getElem?,hv];rfl
     have ax:(execOp a.eval o).run P w=.ok (.enter f (vl.toArray++args.map a.eval++vr.toArray)) w:=by obtain⟨dst,op,type,pos,after,guard⟩:=o;simp only at ac;subst ac;simp only[execOp,resolve,bB,Deferred.ofValue,Sem.run_bind,Sem.run_pure,Result.andThen_ok,invoke];simpa using hf (vl.toArray++args.map a.eval++vr.toArray) w
     simp only[Oper.wp,ax,Oper.upon];have al:=kL (kL bz (m9 hF _ _ a4)) bA;have:=ak β H w _ al hW;rw[show(vl++args.toList.map a.eval++vr).toArray=vl.toArray++args.map a.eval++vr.toArray from by apply axx;simp]at this;refine Calls.mono this ?_;rintro e w' ⟨β',H',M',v,x,pk,rfl,g1,g2,g3,g4,g5,g6,g7⟩;obtain⟨rfl,g8⟩:=g7 (nb ks) rfl;rw[dI]at g5;have aQ:∀k d,β k=some d->β' k=some d:=λk d h=>g3 k d (by simp) h;have aS:∀k∈nb ks,k∈ks:=λk hk=>(ayF.1 hk).1;refine⟨⟨⟨g6,λb hb hu=>g8 b hb λk hk d av e=>hu ⟨λe'=>(by have:=am k (aS k hk);rw[e']at this;cases this),.inr (.inr ⟨k,am k (aS k hk),d,av,e.symm⟩)⟩⟩,uU.mono (H':=H') g2.inv g4⟩,?_⟩;exact tail (aX _ g5) ((hF.mono aQ g4).fg hd g1) g2 (.inl aQ) g4 g6
    ·exact h.elim
   ·exact h.elim
theorem kn{i:Nat}{o:Oper}{ks:List Nat}{Y':Nat->List Nat}{r:Pl}{n:Nat}(hi:ops[i]?=some o)(ag:ayx ops=true)(aW:ay ops (L.setIfInBounds i true) r=true){next ad no:St->Prop}(hn:∀st',next st'->cj P C ops r st' QJ)(aX:∀st',ad st'->cj P C ops r st' QJ)
  (aZ:∀st',no st'->cj P C ops r st' QJ)
  (h:gd ops o st (λst'=>((okW ks st' o.op∧AD ks r o.op)∧r.there st'.M)∧cO P C (some (nb ks)) o st' next ad) no)
  (hF:jl β H st.n st.fr a) (hW:cM C β H st.M w) (am:∀k∈ks,k∈Y' i) (hY:∀j,∀k∈r.Y j,k∈Y' j) (hlen:r.len<=n) :
  wpOp P ops (QQ C QJ) i (λa' w'=>GG H (Wb β w.heap.size (Y' i)) w w'∧tV P ops (QQ C QJ) (λj w1 w2=>GG H (Wb β w.heap.size (Y' j)) w1 w2) n (L.setIfInBounds i true) a' w') a w:=by
 refine wpOp_mono (K:=λa' w'=>GG H (Wb β w.heap.size (Y' i)) w w'∧tV P ops (QQ C QJ) (λj w1 w2=>GG H (Wb β w.heap.size (Y' j)) w1 w2) r.len (L.setIfInBounds i true) a' w') (λa' w' h'=>⟨h'.1,Ef hlen h'.2⟩) ?_;unfold wpOp;simp only[hi];rcases P2 h hF with⟨hw,fr,aj,ai⟩ | ⟨hw,fr,aj,az⟩
 ·rw[if_pos hw];exact .inl (Th (st:=⟨st.n,fr,st.M⟩) ag aW hn aX ai.1.1.1 ai.1.1.2 ai.1.2 ai.2 aj hW am hY)
 ·rw[if_neg (by simp[hw])];exact⟨⟨RS.EC w,hW.inv⟩,oA _ _ _ _ (λj w1 w2 _ hr=>⟨hr.1.mono λb _ hb=>hb.mono (hY j),hr.2⟩) (aZ _ az ag _ aW β H _ w aj hW)⟩
def bj(P:Program)(C:Ctx)(ops:Array Oper)(p:Pl)(st:St)(Q:bf):Prop :=
 ayx ops=true->∀L,jJ ops L p=true->∀β H a w,jl β H st.n st.fr a->cM C β H st.M w->∀(Y':Nat->List Nat) (n:Nat),(∀j,∀k∈p.Y j,k∈Y' j)->p.len<=n+1 ->
  ∀j∈p.s7,wpOp P ops (QQ C Q) j (λa' w'=>GG H (Wb β w.heap.size (Y' j)) w w'∧tV P ops (QQ C Q) (λj w1 w2=>GG H (Wb β w.heap.size (Y' j)) w1 w2) n (L.setIfInBounds j true) a' w') a w
mutual
theorem eJ{R:bf}(np:∀c st,¬R (.panic c) st):∀(pl:Pl) (st:St) {Q QJ:bf},(∀e st,Q e st->R e st)->(∀e st,QJ e st->R e st)->fQ P C ops pl st Q QJ->cj P C ops pl st R
 | .nil,st,Q,QJ,hQ,hJ,h=>λ_ L hL β H a w hF hW=>by simp only[ay,ayB]at hL;exact⟨hL,st,hQ _ _ h,β,H,hF,hW⟩
 | .stop,st,Q,QJ,hQ,hJ,h=>λ_ L hL β H a w hF hW=>by simp[ay]at hL
 | .alt i ks r p,st,Q,QJ,hQ,hJ,h=>λag L hL β H a w hF hW=>by
  simp only[ay,ayt,beq_iff_eq]at hL;simp only[fQ]at h;obtain⟨h,hp⟩:=h;split at h
  ·exact h.elim
  ·rename_i o ho;have hlen:(Pl.alt i ks r p).len=(max r.len (p.len - 1))+1:=by simp only[Pl.len];omega
   rw[hlen];refine KH hL.1 (by simp) λj hj=>?_;rcases ayn.1 hj with rfl | hj
   ·exact kn ho ag hL.2.1 (λst'=>eJ np r st' hQ hJ) (λst'=>eJ np r st' hJ hJ) (λst'=>eJ np r st' hQ hJ) h hF hW (λk hk=>by simp[Pl.Y,one,hk]) (λj k hk=>by simp[Pl.Y,hk]) (ayy _ _)
   ·exact FU np p st hQ hJ hp ag L hL.2.2 β H a w hF hW _ _ (λj k hk=>by simp[Pl.Y,hk]) (by omega) j hj
 | .l i ks r,st,Q,QJ,hQ,hJ,h=>λag L hL β H a w hF hW=>by
  simp only[ay,ayt,beq_iff_eq]at hL;simp only[fQ]at h;split at h
  ·exact h.elim
  ·rename_i o ho;exact Kf hL.1 (kn ho ag hL.2 (λst'=>eJ np r st' hQ hJ) (λst'=>eJ np r st' hJ hJ) (λst'=>eJ np r st' hQ hJ) h hF hW (λk hk=>by simp[Pl.Y,one,hk]) (λj k hk=>by simp[Pl.Y,hk]) (axq _))
 | .m i ks r j ae r',st,Q,QJ,hQ,hJ,h=>λag L hL β H a w hF hW=>by
  simp only[ay,ayt,beq_iff_eq]at hL;simp only[fQ]at h;split at h
  ·rename_i o o' ho bC;exact Rx hL.1 (kn ho ag hL.2.1 (λst'=>eJ np r st' hQ hJ) (λst'=>eJ np r st' hJ hJ) (λst'=>eJ np r st' hQ hJ) h.1 hF hW (λk hk=>by simp[Pl.Y,one,hk]) (λj k hk=>by simp[Pl.Y,hk]) (ayy _ _))
    (kn bC ag hL.2.2 (λst'=>eJ np r' st' hQ hJ) (λst'=>eJ np r' st' hJ hJ) (λst'=>eJ np r' st' hQ hJ) h.2 hF hW (λk hk=>by simp[Pl.Y,one,hk]) (λj k hk=>by simp[Pl.Y,hk]) (Nat.le_max_right _ _))
  ·exact h.elim
 | .q i ks r,st,Q,QJ,hQ,hJ,h=>λag L hL β H a w hF hW=>by
  simp only[ay,ayt]at hL;obtain⟨hq,hL⟩:=hL;simp only[fQ]at h;split at h
  ·exact h.elim
  ·rename_i o ho;simp only[Vr,ho,ayt]at hq;obtain⟨h1,h2,h3,h4,h5⟩:=hq;simp only[ayG,ayt,Bool.not_eq_true']at h4
   let D:Nat->Bool:=λj=>(QT ops i).contains j
   let U:Nat->Prop:=λb=>∃j,j<ops.size∧j≠i∧D j=false∧L.getD j true=false∧Wb β w.heap.size (r.Y j) b
   have bD:(∃t x,o.op=.load t x)->∀b,U b->b<w.heap.size->tY∈ks∨∃k∈ks,∃d,β k=some (some d)∧d.b=b:=by
    rintro⟨t',x',ac⟩ b ⟨j,a5,a6,a7,a8,bG,aY⟩ hb;obtain⟨dst,op,type,pos,after,guard⟩:=o;simp only at ac;subst ac;simp only[ayG,List.mem_range,ayH,beq_iff_eq]at h5;have bh:∀k∈r.Y j,k∈ks:=λk hk=>by
     rcases h5 j a5 with h | h | h | h
     ·exact absurd h a6
     ·rw[a8]at h;cases h
     ·rw[show(QT ops i).contains j=false from a7]at h;cases h
     ·have:=h k hk;simpa using this
    rcases aY with aY | aY | ⟨k,hk,d,hd,a0⟩
    ·exact .inl (bh _ aY)
    ·omega
    ·exact .inr ⟨k,bh k hk,d,hd,a0⟩
   have core:∀v,YieldsIf P ops (λw'=>RS U w w'∧uU H w') o v a->(∃fr,jl β H st.n fr (a.put o.dst v)∧fQ P C ops r ⟨st.n,fr,st.M⟩ Q QJ)->tV P ops (QQ C R) (λj w1 w2=>GG H (Wb β w.heap.size ((Pl.q i ks r).Y j)) w1 w2) (Pl.q i ks r).len L a w:=by
    rintro v hy ⟨fr,aj,hv⟩;refine w8 (D:=D) (S:=λw'=>RS U w w'∧uU H w') ho (Region.noSelect_spec ag) (λc a' w' ⟨st',hp,_⟩=>absurd hp (np c st')) (λj oj hj au=>?_) (λw1 hs=>⟨RS.EC w1,hs.2⟩) _ L a w ?_ (λj hj=>?_) (Region.free_spec ho h2) (by simpa using h3) hy ⟨RS.EC w,hW.inv⟩ ?_
    ·have:=h4 j (by simpa[D]using hj);rw[au]at this;simp only[Array.any_eq_true',ayt,ayH,beq_iff_eq]at this;exact this.2
    ·intro j w1 w2 a5 a6 a7 a8 hs hg;exact⟨hs.1.trans hg.1 λb _ hb=>⟨j,a5,a6,a7,a8,hb⟩,hg.2⟩
    ·exact(h4 j (by simpa[D]using hj)).1
    ·exact eJ np r _ hQ hJ hv ag _ hL β H _ w aj hW
   rcases P2 h hF with⟨hw,fr,aj,hi,ai⟩ | ⟨hw,fr,aj,az⟩
   ·obtain⟨c,x,hx,hc,hd,aL⟩:=tR h1 hi ai;obtain⟨v,bE,bF⟩:=HL (st:=⟨st.n,fr,st.M⟩) hW aj hx hc hi bD;exact core v (.inl ⟨hw,bE⟩) ⟨_,aj.fg hd bF,aL⟩
   ·exact core undef (.inr ⟨hw,rfl⟩) ⟨fr,aj,az⟩
theorem FU{R:bf}(np:∀c st,¬R (.panic c) st):∀(pl:Pl) (st:St) {Q QJ:bf},(∀e st,Q e st->R e st)->(∀e st,QJ e st->R e st)->fQ P C ops pl st Q QJ->bj P C ops pl st R
 | .nil,st,Q,QJ,hQ,hJ,h=>λ_ L hL=>by simp[jJ]at hL
 | .q _ _ _,st,Q,QJ,hQ,hJ,h=>λ_ L hL=>by simp[jJ]at hL
 | .l _ _ _,st,Q,QJ,hQ,hJ,h=>λ_ L hL=>by simp[jJ]at hL
 | .m _ _ _ _ _ _,st,Q,QJ,hQ,hJ,h=>λ_ L hL=>by simp[jJ]at hL
 | .stop,st,Q,QJ,hQ,hJ,h=>λ_ L hL β H a w hF hW Y' n hY hn j hj=>by simp[Pl.s7]at hj
 | .alt i ks r p,st,Q,QJ,hQ,hJ,h=>λag L hL β H a w hF hW Y' n hY hn j hj=>by
  simp only[jJ,ayt]at hL;simp only[fQ]at h;obtain⟨h,hp⟩:=h;split at h
  ·exact h.elim
  ·rename_i o ho;simp only[Pl.len]at hn;simp only[Pl.s7,ayn]at hj;rcases hj with rfl | hj
   ·exact kn ho ag hL.1 (λst'=>eJ np r st' hQ hJ) (λst'=>eJ np r st' hJ hJ) (λst'=>eJ np r st' hQ hJ) h hF hW (λk hk=>hY j k (by simp[Pl.Y,one,hk])) (λj' k hk=>hY j' k (by simp[Pl.Y,hk])) (by omega)
   ·exact FU np p st hQ hJ hp ag L hL.2 β H a w hF hW Y' n (λj' k hk=>hY j' k (by simp[Pl.Y,hk])) (by omega) j hj
end
theorem aa.draw{id:Nat}(pl:Pl)(hm:P.follows .mixedOrders=true)(hp:(ayx ops&&(ay ops (ayz ops.size false) pl&&decide (pl.len<=ops.size)))=true)(np:∀c st,¬QJ (.panic c) st)
  (h:fQ P C ops pl st QJ QJ):aa P C (.region id ops true) st QJ:=by
 simp only[ayt,decide_eq_true_eq]at hp;rintro a w ⟨β,H,hF,hW⟩;exact wp_region_any hm (zc _ _ _ _ (Ef hp.2.2 (eJ np pl st (λ_ _ h=>h) (λ_ _ h=>h) h hp.1 _ hp.2.1 β H a _ hF hW.drew)))
theorem aa.awH{P:Program}{C:Ctx}{ops:Array Oper}{st:St}{Q:bf}{id:Nat}(pl:Pl)(h:fQ P C ops pl st Q Q)(m:P.follows .mixedOrders=true:=by kernel_rfl)(p:(ayx ops&&(ay ops (ayz ops.size false) pl&&decide (pl.len<=ops.size)))=true:=by kernel_rfl)(n:∀c st,¬Q (.panic c) st:=by simp):aa P C (.region id ops true) st Q:=aa.draw pl m p n h
def C9(C:Ctx)(ao:St):bf:=λe s=>match e with
 | .normal=>aP C s ao
 | _=>False
@[simp] theorem SC{ao s:St}:C9 C ao .normal s=aP C s ao:=rfl
theorem aa.xD{id:Nat}(pl:Pl)(ao:St)(hm:P.follows .mixedOrders=true)(hp:(ayx ops&&(ay ops (ayz ops.size false) pl&&decide (pl.len<=ops.size)))=true)
  (h:fQ P C ops pl st (C9 C ao) (C9 C ao)) (k:QJ .normal ao):aa P C (.region id ops true) st QJ:=by
 refine aa.cut (C9 C ao) (aa.draw pl hm hp (λc st h=>by simp[C9]at h) h) (λe st' h'=>?_);cases e<;>simp only[C9]at h';exact⟨ao,h',k⟩
end
end Go.Sv

