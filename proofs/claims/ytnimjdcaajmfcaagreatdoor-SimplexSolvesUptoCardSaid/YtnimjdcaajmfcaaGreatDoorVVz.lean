/- A text of the prover's own. -/
import Derived.Test.YtnimjdcaajmfcaaGreatDoorVVy
open Go.Region renaming ready->ayv,noSelect->ayx,wanted->aym
open Array renaming setIfInBounds_comm->ayK,getElem?_setIfInBounds_ne->awS
open Bool renaming or_eq_true->ayH,and_eq_true->ayt,not_eq_true'->ayL
open List renaming mem_cons->ayn,mem_append->ayp,getElem?_set_ne->axQ,map_cons->aw6,nodup_cons->ayM,mem_map->ayN,getElem?_eq_none->awT,filter_cons->ayJ,filter_congr->ayO,all_eq_true->ayG,cons_append->ayb,any_eq_true->ayP,mem_singleton->ayo,map_append->ayQ,nodup_append->ayR,map_nil->ayS,contains_iff_mem->ayC
open Option.some renaming injEq->awR
namespace Go.Sv
open Go Go.RowKit
structure fu where
 i:Nat
 t:Nat
 k:Nat
 ti:TI
inductive Pz
 | q (i:Nat) (ks:List Nat) (r:Pz)
 | p (i:Nat) (r:Pz)
 | d (i:Nat) (r:Pz)
 | b (r:Pl)
def Pz.qs:List Nat->Pz->Pz
 | [],r=>r
 | i::is,r=>.q i [] (Pz.qs is r)
def Pz.Y:Pz->Nat->List Nat
 | .q _ _ r,x=>r.Y x
 | .p _ r,x=>r.Y x
 | .d _ r,x=>r.Y x
 | .b r,x=>r.Y x
def Pz.len:Pz->Nat
 | .q _ _ r=>r.len+1
 | .p _ r=>r.len+1
 | .d _ r=>r.len+1
 | .b r=>r.len
def iZ(x:Nat->Bool):List Nat->Array Bool->Array Bool
 | [],L=>L
 | i::D,L=>if x i=true then(iZ x D L).setIfInBounds i true else iZ x D L
def Jt:List Nat->List Nat->Array Bool->(Array Bool->List Nat->Bool)->Bool
 | [],p,L,f=>f L p
 | i::D,p,L,f=>Jt D (p++[i]) L f&&Jt D p (L.setIfInBounds i true) f
def JW(ops:Array Oper)(i:Nat)(D:List (Nat × Nat)):Bool:=match ops[i]? with
 | some o=>match o.dst with
  | some t=>D.all λd=>d.2 != t
  | none=>true
 | none=>false
def uJ(ops:Array Oper):List (Nat × Nat)->Array Bool->Pz->Bool
 | D,L,.d i r=>(match ops[i]? with
  | some ⟨some t,.alloc _,_,_,_,none⟩=>!(D.any λd=>d.1==i)&&(!(D.any λd=>d.2==t)&&uJ ops (D++[(i,t)]) L r)
  | _=>false)
 | D,L,.q i ks r=>JW ops i D&&(!(D.any λd=>d.1==i)&&(Jt (D.map (·.1)) [] L (λL' _=>Vr ops L' i ks r.Y)&&uJ ops D (L.setIfInBounds i true) r))
 | D,L,.p i r=>JW ops i D&&(!(D.any λd=>d.1==i)&&(Jt (D.map (·.1)) [] L (λL' av=>(ayv .any ops L').contains i&&(ayv .any ops L').all λj=>j==i||av.contains j)&&uJ ops D (L.setIfInBounds i true) r))
 | D,L,.b r=>Jt (D.map (·.1)) [] L (λL' av=>av.isEmpty||(!(ayv .any ops L').isEmpty&&(ayv .any ops L').all λj=>av.contains j))&&ay ops (iZ (λ_=>true) (D.map (·.1)) L) r
def E3(P:Program)(f:FuncId)(xs:List SV)(M:aC)(K:SV->Prop):Prop:=SV.uM xs=[]∧∃ac Φ,cP M xs ac∧qA P f ac Φ∧∀x,Φ x->K x
def oB(P:Program)(o:Oper)(st:St)(K:St->Prop):Prop:=match o.op with
 | .call ⟨.value (.func f),args,_⟩=>match BL st.fr args.toList with
  | some xs=>au P f∧BV o.dst st.n∧E3 P f xs st.M λx=>K ⟨st.n,fg o.dst (some x) st.fr,st.M⟩
  | none=>False
 | _=>False
def N7(d:fu):Option cJ:=some ⟨d.ti.size,[d.ti.dm],false⟩
def qS:List fu->List (Nat × SV)->List (Nat × SV)
 | [],fr=>fr
 | d::D,fr=>(d.t,.ptr d.k 0 0)::qS D fr
def xN:List fu->aC->aC
 | [],M=>M
 | d::D,M=>(xN D M).set d.k (N7 d)
def yH(P:Program)(C:Ctx)(ops:Array Oper):List fu->Pz->St->bf->bf->Prop
 | D,.d i r,st,Q,QJ=>(match ops[i]? with
  | some ⟨some t,.alloc T,_,_,_,none⟩=>match an P T with
   | some ti=>t<st.n∧yH P C ops (D++[⟨i,t,st.M.length,ti⟩]) r ⟨st.n,del st.fr t,st.M++[none]⟩ Q QJ
   | none=>False
  | _=>False)
 | D,.q i ks r,st,Q,QJ=>match ops[i]? with
  | none=>False
  | some o=>gd ops o st (λst'=>H8 ks st' o.op∧cO P C none o st' (λaI=>yH P C ops D r aI Q QJ) (λ_=>False)) (λst'=>yH P C ops D r st' Q QJ)
 | D,.p i r,st,Q,QJ=>match ops[i]? with
  | none=>False
  | some o=>gd ops o st (λst'=>oB P o st' (λaI=>yH P C ops D r aI QJ QJ)) (λst'=>yH P C ops D r st' Q QJ)
 | D,.b r,st,Q,QJ=>fQ P C ops r ⟨st.n,qS D st.fr,xN D st.M⟩ Q QJ
section
variable {P:Program} {C:Ctx} {ops:Array Oper} {L:Array Bool} {Q QJ:bf} {st:St} {β:cu} {H:Hp} {a:Act} {w:World} {M:aC}
theorem sj(x:Nat->Bool)(D:List Nat)(L:Array Bool)(i:Nat):iZ x D (L.setIfInBounds i true)=(iZ x D L).setIfInBounds i true:=by
 induction D with
 | nil=>rfl
 | cons j D ih =>
  simp only[iZ];rw[ih];split
  ·by_cases e:i=j
   ·subst e;rfl
   ·rw[ayK _ _ e]
  ·rfl
def jj(x:Nat->Bool)(j:Nat):Nat->Bool:=λi=>x i||i==j
theorem Mw(x:Nat->Bool)(j:Nat)(D:List Nat)(L:Array Bool):iZ (jj x j) D L=if j∈D then(iZ x D L).setIfInBounds j true else iZ x D L:=by
 induction D with
 | nil=>rfl
 | cons i D ih =>
  simp only[iZ,jj,ih];by_cases e:i=j
  ·subst e;simp only[beq_self_eq_true,Bool.or_true,if_true,ayn,true_or];split<;>split<;>simp
  ·have e':¬j=i:=λh=>e h.symm;simp only[beq_iff_eq,e,e',ayH,or_false,ayn,false_or];split
   ·split
    ·rw[ayK _ _ e']
    ·rfl
   ·rfl
theorem oH{f:Array Bool->List Nat->Bool}(x:Nat->Bool):∀(D p:List Nat) (L:Array Bool),Jt D p L f=true ->
  ∃q,f (iZ x D L) q=true∧∀j,j∈q↔j∈p∨(j∈D∧x j=false)
 | [],p,L,h=>⟨p,h,λj=>by simp⟩
 | i::D,p,L,h=>by
  simp only[Jt,ayt]at h;simp only[iZ];by_cases hx:x i=true
  ·obtain⟨q,h1,h2⟩:=oH x D p _ h.2;rw[sj]at h1;rw[if_pos hx];refine⟨q,h1,λj=>?_⟩;rw[h2 j];simp only[ayn];constructor
   ·rintro(h | h)
    ·exact .inl h
    ·exact .inr ⟨.inr h.1,h.2⟩
   ·rintro(h | ⟨h | h,h'⟩)
    ·exact .inl h
    ·subst h;rw[hx]at h';cases h'
    ·exact .inr ⟨h,h'⟩
  ·obtain⟨q,h1,h2⟩:=oH x D _ L h.1;rw[if_neg hx];refine⟨q,h1,λj=>?_⟩;rw[h2 j];simp only[ayp,ayn,List.not_mem_nil,or_false];have aw:x i=false:=by simpa using hx
   constructor
   ·rintro((h | h) | h)
    ·exact .inl h
    ·subst h;exact .inr ⟨.inl rfl,aw⟩
    ·exact .inr ⟨.inr h.1,h.2⟩
   ·rintro(h | ⟨h | h,h'⟩)
    ·exact .inl (.inl h)
    ·exact .inl (.inr h)
    ·exact .inr ⟨h,h'⟩
/-! the table, with those that have come -/
def fF(x:Nat->Bool):List fu->aC->aC
 | [],M=>M
 | d::D,M=>if x d.i=true then(fF x D M).set d.k (N7 d) else fF x D M
theorem xg(x:Nat->Bool)(D:List fu)(M:aC):(fF x D M).length=M.length:=by
 induction D with
 | nil=>rfl
 | cons d D ih=>simp only[fF];split<;>simp[ih]
theorem xP{x:Nat->Bool}{D:List fu}{M:aC}{k:Nat}(h:∀d∈D,x d.i=true->d.k≠k):(fF x D M)[k]?=M[k]?:=by
 induction D with
 | nil=>rfl
 | cons d D ih =>
  have ih:=ih λe he=>h e (by simp[he]);simp only[fF];split
  ·rename_i hx;rw[axQ (h d (by simp) hx)];exact ih
  ·exact ih
theorem LO{x:Nat->Bool}{D:List fu}{M:aC}(h:∀d∈D,M[d.k]?=some none){k:Nat}{e:cJ}(hk:M[k]?=some (some e)):(fF x D M)[k]?=some (some e):=by
 rw[xP λd hd _ e'=>?_]
 ·exact hk
 ·have:=h d hd;rw[e',hk]at this;cases this
theorem H7{x:Nat->Bool}{D:List fu}{M:aC}{d:fu}(hd:d∈D)(hn:(D.map (·.i)).Nodup)(hk:(D.map (·.k)).Nodup):fF (jj x d.i) D M=(fF x D M).set d.k (N7 d):=by
 induction D with
 | nil=>cases hd
 | cons c D ih =>
  simp only[aw6,ayM]at hn hk;simp only[fF];rcases ayn.1 hd with rfl | hd
  ·have aO:∀e∈D,e.i≠d.i:=λe he h=>hn.1 (ayN.2 ⟨e,he,h⟩);have al:fF (jj x d.i) D M=fF x D M:=by
    clear ih hn hk
    induction D with
    | nil=>rfl
    | cons e D bB =>
     simp only[fF];rw[bB (by simp) λe' bC=>aO e' (by simp[bC])];have:jj x d.i e.i=x e.i:=by simp[jj,aO e (by simp)]
     rw[this]
   rw[al,if_pos (by simp[jj])];split
   ·simp
   ·rfl
  ·have aj:c.i≠d.i:=λh=>hn.1 (ayN.2 ⟨d,hd,h.symm⟩);have bD:c.k≠d.k:=λh=>hk.1 (ayN.2 ⟨d,hd,h.symm⟩);have:jj x d.i c.i=x c.i:=by simp[jj,aj]
   rw[this,ih hd hn.2 hk.2];split
   ·rw[List.set_comm _ _ bD.symm]
   ·rfl
theorem cM.Sf(h:cM C β H M w){k:Nat}(a0:M[k]?=some none)(bE:β k=none){cs:Array Value}{T:TypeId}{s:Nat}{es:List SV}{vs:List Value}(hd:ba β H s es vs)(hl:vs.length<=cs.size)
  (hc:∀i,i<vs.length->cs[i]?=vs[i]?) :
  cM C (β.eK k (some ⟨w.heap.size,cs.size,s⟩)) H (M.set k (some ⟨s,es,false⟩)) (w.alloc (.cells cs T)):=by
 have up:∀j d,β j=some d->(β.eK k (some ⟨w.heap.size,cs.size,s⟩)) j=some d:=λj d hj=>by simp only[cu.eK];rw[if_neg];exact hj;intro e;subst e;rw[bE]at hj;cases hj
 have aP:k<M.length:=by
  rcases Nat.lt_or_ge k M.length with h' | h'
  ·exact h'
  ·rw[awT h']at a0;cases a0
 have cases':∀{j:Nat} {e:cJ},(M.set k (some ⟨s,es,false⟩))[j]?=some (some e)->(j≠k∧M[j]?=some (some e))∨(j=k∧e=⟨s,es,false⟩):=λ{j e} hj=>by
  by_cases ej:j=k
  ·subst ej;rw[List.getElem?_set_self aP]at hj;simp only[awR]at hj;exact .inr ⟨rfl,hj.symm⟩
  ·rw[axQ (Ne.symm ej)]at hj;exact .inl ⟨ej,hj⟩
 exact{
  os:=h.os,tape:=h.tape,output:=h.output
  size:=by have:=h.size;simp;omega
  frame:=λb hb hx=>by rw[heap_alloc_old (by have:=h.size;omega)];exact h.frame b hb hx
  ext:=h.ext,new:=h.new
  inv:=λb bo hb=>by obtain⟨T',z,h'⟩:=h.inv b bo hb;exact⟨T',z,by rw[heap_alloc_old (iL h')];exact h'⟩
  dF:=λj e hj=>by
   rcases cases' hj with⟨aj,aM⟩ | ⟨rfl,rfl⟩
   ·exact(h.dF j e aM).up up (λ_ _ h=>h) (λd ai=>heap_alloc_old (h.lt aM ai))
   ·exact .inr (.inl ⟨_,cs,T,vs,by simp[cu.eK];rfl,rfl,heap_alloc_new,rfl,ba.mono (λ_ _ h=>h) _ _ _ (λk d _=>up k d) hd,hl,hc,λhf=>by cases hf⟩)
  own:=λj e d hj ai=>by
   rcases cases' hj with⟨aj,aM⟩ | ⟨rfl,rfl⟩
   ·simp only[cu.eK]at ai;rw[if_neg aj]at ai;exact h.own j e d aM ai
   ·simp only[cu.eK,if_true,awR]at ai;subst ai;refine⟨λ_=>?_,.inl h.size⟩;cases hH:H w.heap.size with
    | none=>rfl
    | some bo=>have:=h.aR hH;omega
  inj:=λj j' e e' d d' hj aM ax az hb=>by
   rcases cases' hj with⟨bp,bq⟩ | ⟨rfl,rfl⟩<;>rcases cases' aM with⟨br,bs⟩ | ⟨rfl,rfl⟩
   ·simp only[cu.eK]at ax az;rw[if_neg bp]at ax;rw[if_neg br]at az;exact h.inj j j' e e' d d' bq bs ax az hb
   ·simp only[cu.eK]at ax az;rw[if_neg bp]at ax;simp only[if_true,awR]at az;subst az;have:=h.lt bq ax;simp only at hb;omega
   ·simp only[cu.eK]at ax az;rw[if_neg br]at az;simp only[if_true,awR]at ax;subst ax;have:=h.lt bs az;simp only at hb;omega
   ·rfl
  fresh:=λj hj=>by simp only[List.length_set]at hj;simp only[cu.eK];rw[if_neg (by omega)];exact h.fresh j hj
  iK:=λj d hj hd=>up j d (h.iK j d hj hd)
  fM:=h.fM }
theorem cM.sub{M':aC}(h:cM C β H M w)(hl:M'.length=M.length)(hs:∀(k:Nat) (e:cJ),M'[k]?=some (some e)->M[k]?=some (some e)):cM C β H M' w :=
 ⟨h.os,h.tape,h.output,h.size,h.frame,h.ext,h.new,h.inv,λk e hk=>h.dF k e (hs k e hk),λk e d hk=>h.own k e d (hs k e hk),λk k' e e' d d' hk a6=>h.inj k k' e e' d d' (hs k e hk) (hs k' e' a6),λk hk=>h.fresh k (by omega),h.iK,h.fM⟩
structure ZS(C:Ctx)(n:Nat)(fr:List (Nat × SV))(M:aC)(D:List fu)(x:Nat->Bool)(β:cu)(H:Hp)(a:Act)(w:World):Prop where
 F:jl β H n fr a
 W:cM C β H (fF x D M) w
 S:∀d∈D,x d.i=true->∃v,a.tmps[d.t]?=some v∧Den β H (.ptr d.k 0 0) v
 N:∀d∈D,x d.i=false->β d.k=none
structure zg(P:Program)(ops:Array Oper)(n:Nat)(fr:List (Nat × SV))(M:aC)(D:List fu):Prop where
 o:∀d∈D,∃T ty p af,ops[d.i]?=some ⟨some d.t,.alloc T,ty,p,af,none⟩∧an P T=some d.ti
 ni:(D.map (·.i)).Nodup
 nk:(D.map (·.k)).Nodup
 M:∀d∈D,M[d.k]?=some none
 t:∀d∈D,d.t<n
 nt:(D.map (·.t)).Nodup
 fr:∀d∈D,get fr d.t=none
def zg.nD(D:List fu):List (Nat × Nat):=D.map λd=>(d.i,d.t)
theorem oV{α:Type}(f:α->Nat):∀{D:List α},(D.map f).Nodup->∀{a b:α},a∈D->b∈D->f a=f b->a=b
 | [],_,_,_,h,_,_=>by cases h
 | c::D,hn,a,b,ha,hb,e=>by
  simp only[aw6,ayM]at hn;obtain⟨h1,h2⟩:=hn;rcases ayn.1 ha with ea | bt<;>rcases ayn.1 hb with eb | bu
  ·rw[ea,eb]
  ·subst ea;exact absurd (ayN.2 ⟨b,bu,e.symm⟩) h1
  ·subst eb;exact absurd (ayN.2 ⟨a,bt,e⟩) h1
  ·exact oV f h2 bt bu e
theorem vk{fr:List (Nat × SV)}{t:Nat}{d:Option Tmp}{x:Option SV}(h:get fr t=none)(hd:∀s,d=some s->s≠t):get (fg d x fr) t=none:=by
 cases d with
 | none=>cases x<;>exact h
 | some s=>cases x with
  | none =>
   cases hg:get (fg (some s) none fr) t with
   | none=>rfl
   | some y=>rw[(mO hg).2]at h;cases h
  | some y=>simp only[fg,get];rw[if_neg (hd s rfl)];exact h
theorem pZ{fr:List (Nat × SV)}{t s:Nat}(h:get fr t=none∨t=s):get (del fr s) t=none:=by
 cases hg:get (del fr s) t with
 | none=>rfl
 | some y =>
  obtain⟨h1,h2⟩:=mO hg;rcases h with h | h
  ·rw[h]at h2;cases h2
  ·exact absurd h h1
theorem ZS.amD{n:Nat}{fr:List (Nat × SV)}{D:List fu}{x:Nat->Bool}(hD:zg P ops n fr M D)(h:ZS C n fr M D x β H a w){d:fu}(hd:d∈D)(hx:x d.i=false) :
  ∃o v w' bd,ops[d.i]?=some o∧o.guard=none∧(execOp a.eval o).run P w=.ok (.value v) w'∧bd.b=w.heap.size∧w.heap.size<=w'.heap.size∧(∀b,b<w.heap.size->w'.heap[b]?=w.heap[b]?) ∧
   ZS C n fr M D (jj x d.i) (β.eK d.k (some bd)) H (a.put o.dst v) w':=by
 obtain⟨T,ty,p,af,ho,a7⟩:=hD.o d hd;obtain⟨i1,d1,z1,ht⟩:=aH a7;obtain⟨v,a8,aQ,bG⟩:=rT ht β H;have aS:(fF x D M)[d.k]?=some none:=by
  rw[xP λe he aJ hk=>?_]
  ·exact hD.M d hd
  ·have:e=d:=oV _ hD.nk he hd hk;rw[this,hx]at aJ;cases aJ
 have hW:=h.W.Sf (T:=T) (cs:=z1.cells) (s:=d.ti.size) (es:=[d.ti.dm]) (vs:=v.cells.toList) aS (h.N d hd hx) (by simp only[ba];exact⟨v,[],by simp,by rw[aQ,bG],a8,rfl⟩) (by simp[aQ]) (λq hq=>by simp[aQ]);have up:∀j e,β j=some e->(β.eK d.k (some ⟨w.heap.size,z1.cells.size,d.ti.size⟩)) j=some e:=λj e hj=>by simp only[cu.eK];rw[if_neg];exact hj;intro e';subst e';rw[h.N d hd hx]at hj;cases hj
 have a9:=hD.t d hd;refine⟨_,.pointer (some ⟨w.heap.size,0,none⟩),w.alloc (.cells z1.cells T),⟨w.heap.size,z1.cells.size,d.ti.size⟩,ho,rfl,?_,rfl,by simp,λb hb=>heap_alloc_old hb,?_,?_,λe he aJ=>?_,λe he aJ=>?_⟩
 ·simp[execOp,Instr.alloc,ht.lE,newVar,newRow]
 ·have:=(h.F.mono up (λ_ _ h=>h)).skip d.t (.pointer (some ⟨w.heap.size,0,none⟩));refine this.sub λt' y hg=>?_;have aj:t'≠d.t:=λe=>by rw[e,hD.fr d hd]at hg;cases hg
  have key:∀l:List (Nat × SV),get (del l d.t) t'=get l t':=λl=>by
   induction l with
   | nil=>rfl
   | cons q l ih =>
    obtain⟨s,z⟩:=q;simp only[del,ayJ];by_cases e:s=d.t
    ·subst e;simp only[beq_self_eq_true,Bool.not_true,Bool.false_eq_true,if_false,get];rw[if_neg (Ne.symm aj)];exact ih
    ·simp only[e,ayL,beq_eq_false_iff_ne,ne_eq,not_false_eq_true,if_true,get];split
     ·rfl
     ·exact ih
  rw[key];exact hg
 ·rw[H7 hd hD.ni hD.nk];exact hW
 ·by_cases e1:e.i=d.i
  ·have:e=d:=oV _ hD.ni he hd e1;subst this;refine⟨_,by simp[Act.put,h.F.2.1,a9];rfl,?_⟩;simp only[Den];exact⟨_,by simp[cu.eK];rfl,by simp⟩
  ·have aw:x e.i=true:=by simpa[jj,e1]using aJ
   obtain⟨v',aK,ad⟩:=h.S e he aw;have aj:d.t≠e.t:=λh'=>e1 (by rw[oV _ hD.nt he hd h'.symm]);refine⟨v',by simp only[Act.put];rw[awS aj];exact aK,ad.up up (λ_ _ h=>h)⟩
 ·have e1:e.i≠d.i:=λh'=>by simp[jj,h']at aJ
  have aw:x e.i=false:=by simpa[jj,e1]using aJ
  have aj:e.k≠d.k:=λh'=>e1 (by rw[oV _ hD.nk he hd h']);simp only[cu.eK];rw[if_neg aj];exact h.N e he aw
def eG(x:Nat->Bool)(D:List fu):Nat:=(D.filter λd=>!x d.i).length
theorem A6{x:Nat->Bool}{D:List fu}{d:fu}(hd:d∈D)(hn:(D.map (·.i)).Nodup)(hx:x d.i=false):eG x D=eG (jj x d.i) D+1:=by
 induction D with
 | nil=>cases hd
 | cons c D ih =>
  simp only[aw6,ayM]at hn;simp only[eG,ayJ];rcases ayn.1 hd with rfl | hd
  ·have al:(D.filter λe=>!jj x d.i e.i)=D.filter λe=>!x e.i:=ayO λe he=>by
    have:e.i≠d.i:=λh=>hn.1 (ayN.2 ⟨e,he,h⟩);simp[jj,this]
   rw[if_pos (by simp[hx]),if_neg (by simp[jj]),al];rfl
  ·have aj:c.i≠d.i:=λh=>hn.1 (ayN.2 ⟨d,hd,h.symm⟩);have:=ih hd hn.2;simp only[eG]at this;have e:jj x d.i c.i=x c.i:=by simp[jj,aj]
   rw[e];split<;>simp[this]
theorem M3{x:Nat->Bool}{D:List fu}(h:∀d∈D,x d.i=true):eG x D=0:=by simp only[eG,List.length_eq_zero_iff,List.filter_eq_nil_iff];intro d hd;simp[h d hd]
theorem Sj{k:Nat}{bd:Bd}{s s':Nat}{ks:List Nat}{b:Nat}(hs:s<=s')(hb:bd.b=s)(h:Wb (β.eK k (some bd)) s' ks b):Wb β s ks b:=by
 obtain⟨h1,h2⟩:=h;refine⟨h1,?_⟩;rcases h2 with h2 | h2 | ⟨j,h3,d,h4,h5⟩
 ·exact .inl h2
 ·exact .inr (.inl (by omega))
 ·by_cases e:j=k
  ·subst e;simp only[cu.eK,if_true,awR]at h4;subst h4;exact .inr (.inl (by omega))
  ·simp only[cu.eK]at h4;rw[if_neg e]at h4;exact .inr (.inr ⟨j,h3,d,h4,h5⟩)
def ZJ(P:Program)(C:Ctx)(ops:Array Oper)(pl:Pz)(D:List fu)(st:St)(Q:bf):Prop :=
 ayx ops=true->∀L,uJ ops (zg.nD D) L pl=true->zg P ops st.n st.fr st.M D->∀(m:Nat) (x:Nat->Bool) β H a w,eG x D=m->ZS C st.n st.fr st.M D x β H a w ->
  tV P ops (QQ C Q) (λj w1 w2=>GG H (Wb β w.heap.size (pl.Y j)) w1 w2) (pl.len+m) (iZ x (D.map (·.i)) L) a w
theorem Ho{pl:Pz}{D:List fu}(hD:zg P ops st.n st.fr st.M D)
  (step:∀(x:Nat->Bool) β H a w,ZS C st.n st.fr st.M D x β H a w ->
   (∀d∈D,x d.i=false->wpOp P ops (QQ C Q) d.i (λa' w'=>GG H (Wb β w.heap.size (pl.Y d.i)) w w'∧tV P ops (QQ C Q) (λj w1 w2=>GG H (Wb β w.heap.size (pl.Y j)) w1 w2) (pl.len+eG x D - 1) ((iZ x (D.map (·.i)) L).setIfInBounds d.i true) a' w') a w) ->
   tV P ops (QQ C Q) (λj w1 w2=>GG H (Wb β w.heap.size (pl.Y j)) w1 w2) (pl.len+eG x D) (iZ x (D.map (·.i)) L) a w) :
  ∀(m:Nat) (x:Nat->Bool) β H a w,eG x D=m->ZS C st.n st.fr st.M D x β H a w->tV P ops (QQ C Q) (λj w1 w2=>GG H (Wb β w.heap.size (pl.Y j)) w1 w2) (pl.len+m) (iZ x (D.map (·.i)) L) a w:=by
 intro m
 induction m with
 | zero =>
  intro x β H a w hm hZ;have h:=step x β H a w hZ (λd hd hx=>by have:=A6 hd hD.ni hx;omega);rw[hm]at h;exact h
 | succ m ih =>
  intro x β H a w hm hZ;have h:=step x β H a w hZ (λd hd hx=>?_)
  ·rw[hm]at h;exact h
  ·obtain⟨o,v,w',bd,h1,h2,h3,h4,h5,h6,h7⟩:=hZ.amD hD hd hx;have hc:=A6 hd hD.ni hx;have am:=ih (jj x d.i) _ H _ w' (by omega) h7;have ao:iZ (jj x d.i) (D.map (·.i)) L=(iZ x (D.map (·.i)) L).setIfInBounds d.i true:=by
    rw[Mw,if_pos (ayN.2 ⟨d,hd,rfl⟩)]
   rw[ao]at am;unfold wpOp;simp only[h1];rw[if_pos (by simp[aym,h2])];left;simp only[Oper.wp,h3,Oper.upon];refine⟨⟨⟨h5,λb hb _=>h6 b hb⟩,λb cs hb=>?_⟩,?_⟩
   ·obtain⟨T,z,hz⟩:=hZ.W.inv b cs hb;exact⟨T,z,by rw[h6 b (iL hz)];exact hz⟩
   ·have e:pl.len+eG x D - 1=pl.len+m:=by omega
    rw[e];exact oA _ _ _ _ (λj w1 w2 _ hr=>⟨hr.1.mono λb _ hb=>Sj h5 h4 hb,hr.2⟩) am
theorem td{fr:List (Nat × SV)}{n s:Nat}{d:Option Nat}(h:get fr s=none)(hd:∀t,d=some t->t≠s):get (fO n d fr) s=none:=by
 cases d with
 | none=>exact h
 | some t =>
  simp only[fO];split
  ·simp only[get];rw[if_neg (hd t rfl)];exact h
  ·exact pZ (.inl h)
theorem Np{o:Oper}{yes no:St->Prop}(h:gd ops o st yes no)(hF:jl β H st.n st.fr a) :
  (aym o (yielded ops a.tmps)=true∧∃fr,(∀s,get st.fr s=none->get fr s=none)∧jl β H st.n fr a∧yes ⟨st.n,fr,st.M⟩) ∨
   (aym o (yielded ops a.tmps)=false∧∃fr,(∀s,get st.fr s=none->(∀t,o.dst=some t->t≠s)->get fr s=none)∧jl β H st.n fr (a.put o.dst undef)∧no ⟨st.n,fr,st.M⟩):=by
 unfold gd at h;split at h
 ·rename_i hg;exact .inl ⟨by simp[aym,hg],_,λ_ h=>h,hF,h⟩
 ·rename_i j b hg;split at h
  ·rename_i t ht;split at h
   ·rename_i c hc;obtain⟨v,hv,ad⟩:=hF.2.2 t _ hc;simp only[Den]at ad;obtain⟨rfl, -⟩:=ad;have hy:yielded ops a.tmps j=some c:=by
     unfold yielded;simp only[rK]at ht;rw[ht];simp[hv]
    have aA:∀b',c=b'->jl β H st.n ((t,.val (.bool b'))::st.fr) a:=λb' hb=>by
     subst hb;refine hF.sub λt' x' aT=>?_;simp only[get]at aT;split at aT
     ·rename_i e;subst e;simp only[awR]at aT;subst aT;exact hc
     ·exact aT
    have hn:∀(b':Bool) s,get st.fr s=none->get ((t,.val (.bool b'))::st.fr) s=none:=λb' s hs=>by simp only[get];rw[if_neg];exact hs;intro e;subst e;rw[hs]at hc;cases hc
    by_cases a1:c=b
    ·exact .inl ⟨by simp[aym,hg,hy,a1],_,hn b,aA b a1,h.1 a1⟩
    ·have aU:c=!b:=by cases c<;>cases b<;>simp_all
     exact .inr ⟨by simp[aym,hg,hy,a1],_,λs hs hd=>td (hn _ s hs) hd,(aA _ aU).fO o.dst,h.2 aU⟩
   ·rename_i hc;obtain⟨v,hv,ad⟩:=hF.2.2 t _ hc;obtain rfl:=z9 ad;have hy:yielded ops a.tmps j=none:=by
     unfold yielded;simp only[rK]at ht;rw[ht];simp[hv]
    exact .inr ⟨by simp[aym,hg,hy],_,λs hs hd=>td hs hd,hF.fO o.dst,h⟩
   ·exact h.elim
  ·exact h.elim
theorem zg.frame{n:Nat}{fr fr':List (Nat × SV)}{D:List fu}(h:zg P ops n fr M D)(hf:∀d∈D,get fr' d.t=none):zg P ops n fr' M D:=⟨h.o,h.ni,h.nk,h.M,h.t,h.nt,hf⟩
theorem A8{D:List fu}{i:Nat}{o:Oper}(ho:ops[i]?=some o)(h:JW ops i (zg.nD D)=true):∀d∈D,∀s,o.dst=some s->s≠d.t:=λd hd s hs e=>by simp only[JW,ho,hs,ayG,zg.nD,ayN,bne_iff_ne,ne_eq,forall_exists_index,and_imp]at h;exact h _ d hd rfl e.symm
theorem ZS.put{n:Nat}{fr fr':List (Nat × SV)}{D:List fu}{x:Nat->Bool}{d0:Option Tmp}{v:Value}(h:ZS C n fr M D x β H a w)(hF:jl β H n fr' (a.put d0 v))(hd:∀d∈D,∀s,d0=some s->s≠d.t):ZS C n fr' M D x β H (a.put d0 v) w :=
 ⟨hF,h.W,λd ai hx=>by
  obtain⟨v',aK,ad⟩:=h.S d ai hx;refine⟨v',?_,ad⟩;cases d0 with
  | none=>exact aK
  | some s=>simp only[Act.put];rw[awS (hd d ai s rfl)];exact aK,h.N⟩
theorem ZS.wok{n:Nat}{fr:List (Nat × SV)}{D:List fu}{x:Nat->Bool}(hD:zg P ops n fr M D)(h:ZS C n fr M D x β H a w):cM C β H M w :=
 h.W.sub (by rw[xg]) λk e hk=>LO hD.M hk
theorem Gl{x y:Nat->Bool}{D:List fu}(h:∀d∈D,x d.i=y d.i)(M:aC):fF x D M=fF y D M:=by
 induction D with
 | nil=>rfl
 | cons d D ih=>simp only[fF];rw[ih λe he=>h e (by simp[he]),h d (by simp)]
theorem Lz{x:Nat->Bool}{D:List fu}(h:∀d∈D,x d.i=true)(M:aC):fF x D M=xN D M:=by
 induction D with
 | nil=>rfl
 | cons d D ih=>simp only[fF,xN];rw[ih λe he=>h e (by simp[he]),if_pos (h d (by simp))]
theorem H3{x:Nat->Bool}{D:List fu}{c:fu}(h:x c.i=false)(M:aC):fF x (D++[c]) M=fF x D M:=by
 induction D with
 | nil=>simp[fF,h]
 | cons d D ih=>simp only[ayb,fF,ih]
theorem Lo{x:Nat->Bool}{D:List fu}{M:aC}(h:∀d∈D,d.k<M.length):fF x D (M++[none])=fF x D M++[none]:=by
 induction D with
 | nil=>rfl
 | cons d D ih =>
  simp only[fF];rw[ih λe he=>h e (by simp[he])];split
  ·rw[List.set_append_left _ _ (by rw[xg];exact h d (by simp))]
  ·rfl
theorem Bc{x y:Nat->Bool}{D:List Nat}(h:∀i∈D,x i=y i)(L:Array Bool):iZ x D L=iZ y D L:=by
 induction D with
 | nil=>rfl
 | cons d D ih=>simp only[iZ];rw[ih λe he=>h e (by simp[he]),h d (by simp)]
theorem LI{x:Nat->Bool}{D:List Nat}{c:Nat}(h:x c=false)(L:Array Bool):iZ x (D++[c]) L=iZ x D L:=by
 induction D with
 | nil=>simp[iZ,h]
 | cons d D ih=>simp only[ayb,iZ,ih]
theorem cM.grow(h:cM C β H M w):cM C β H (M++[none]) w :=
 have e:∀{k:Nat} {e:cJ},(M++[none])[k]?=some (some e)->M[k]?=some (some e):=λ{k e} hk=>by
  rcases getElem?_snoc hk with⟨_,h'⟩ | ⟨_,h'⟩
  ·exact h'
  ·cases h'
 ⟨h.os,h.tape,h.output,h.size,h.frame,h.ext,h.new,h.inv,λk e' hk=>h.dF k e' (e hk),λk e' d hk=>h.own k e' d (e hk),λk k' e1 e2 d d' hk a6=>h.inj k k' e1 e2 d d' (e hk) (e a6),
  λk hk=>h.fresh k (by simp at hk;omega),h.iK,h.fM⟩
theorem Cc{n:Nat}{fr:List (Nat × SV)}(hF:jl β H n fr a):∀(D:List fu),(∀d∈D,∃v,a.tmps[d.t]?=some v∧Den β H (.ptr d.k 0 0) v)->jl β H n (qS D fr) a
 | [],_=>hF
 | d::D,h=>by
  have ih:=Cc hF D λe he=>h e (by simp[he]);refine⟨ih.1,ih.2.1,λt y hg=>?_⟩;simp only[qS,get]at hg;split at hg
  ·rename_i e;subst e;simp only[awR]at hg;subst hg;exact h d (by simp)
  ·exact ih.2.2 t y hg
theorem AN{R:bf}(np:∀c st,¬R (.panic c) st):∀(pl:Pz) (D:List fu) (st:St) {Q QJ:bf},(∀e st,Q e st->R e st)->(∀e st,QJ e st->R e st)->yH P C ops D pl st Q QJ->ZJ P C ops pl D st R
 | .d i r,D,st,Q,QJ,hQ,hJ,h=>λaB L hL hD m x β H a w hm hZ=>by
  simp only[yH]at h;split at h
  ·rename_i t T ty p af ho;split at h
   ·rename_i ti a7;obtain⟨a9,h⟩:=h;simp only[uJ,ho,ayt,ayL]at hL;obtain⟨h1,h2,h3⟩:=hL;have bv:∀d∈D,d.i≠i:=λd hd e=>by
     have:(zg.nD D).any (λd=>d.1==i)=true:=by simp only[zg.nD,ayP,ayN];exact⟨(d.i,d.t),⟨d,hd,rfl⟩,by simp[e]⟩
     rw[this]at h1;cases h1
    have aP:∀d∈D,d.k<st.M.length:=λd hd=>by
     have:=hD.M d hd;rcases Nat.lt_or_ge d.k st.M.length with h' | h'
     ·exact h'
     ·rw[awT h']at this;cases this
    have bb:∀d∈D,d.t≠t:=λd hd e=>by
     have:(zg.nD D).any (λd=>d.2==t)=true:=by simp only[zg.nD,ayP,ayN];exact⟨(d.i,d.t),⟨d,hd,rfl⟩,by simp[e]⟩
     rw[this]at h2;cases h2
    have bH:zg P ops st.n (del st.fr t) (st.M++[none]) (D++[⟨i,t,st.M.length,ti⟩]):=by
     refine⟨λd hd=>?_,?_,?_,λd hd=>?_,λd hd=>?_,?_,λd hd=>?_⟩
     ·rcases ayp.1 hd with hd | hd
      ·exact hD.o d hd
      ·simp only[ayo]at hd;subst hd;exact⟨T,ty,p,af,ho,a7⟩
     ·rw[ayQ,ayR];exact⟨hD.ni,by simp,λa ha b hb=>by obtain⟨d,hd,rfl⟩:=ayN.1 ha;simp only[aw6,ayS,ayo]at hb;subst hb;exact bv d hd⟩
     ·rw[ayQ,ayR];exact⟨hD.nk,by simp,λa ha b hb=>by obtain⟨d,hd,rfl⟩:=ayN.1 ha;simp only[aw6,ayS,ayo]at hb;subst hb;have:=aP d hd;omega⟩
     ·rcases ayp.1 hd with hd | hd
      ·rw[List.getElem?_append_left (aP d hd)];exact hD.M d hd
      ·simp only[ayo]at hd;subst hd;simp
     ·rcases ayp.1 hd with hd | hd
      ·exact hD.t d hd
      ·simp only[ayo]at hd;subst hd;exact a9
     ·rw[ayQ,ayR];exact⟨hD.nt,by simp,λa ha b hb=>by obtain⟨d,hd,rfl⟩:=ayN.1 ha;simp only[aw6,ayS,ayo]at hb;subst hb;exact bb d hd⟩
     ·rcases ayp.1 hd with hd | hd
      ·exact pZ (.inl (hD.fr d hd))
      ·simp only[ayo]at hd;subst hd;exact pZ (.inr rfl)
    obtain⟨y,hy⟩:∃y:Nat->Bool,y=λj=>x j&&!(j==i):=⟨_,rfl⟩;have aV:∀d∈D,y d.i=x d.i:=λd hd=>by simp[hy,bv d hd]
    have a2:y i=false:=by simp[hy]
    have hb:fF y (D++[⟨i,t,st.M.length,ti⟩]) (st.M++[none])=fF x D st.M++[none]:=by rw[H3 a2,Lo aP,Gl aV]
    have bI:ZS C st.n (del st.fr t) (st.M++[none]) (D++[⟨i,t,st.M.length,ti⟩]) y β H a w:=by
     refine⟨hZ.F.sub λt' z hg=>(mO hg).2,by rw[hb];exact hZ.W.grow,λd hd hx=>?_,λd hd hx=>?_⟩
     ·rcases ayp.1 hd with hd | hd
      ·exact hZ.S d hd (by rw[<-aV d hd];exact hx)
      ·simp only[ayo]at hd;subst hd;rw[a2]at hx;cases hx
     ·rcases ayp.1 hd with hd | hd
      ·exact hZ.N d hd (by rw[<-aV d hd];exact hx)
      ·simp only[ayo]at hd;subst hd;exact hZ.W.fresh _ (by rw[xg];exact Nat.le_refl _)
    have bc:eG y (D++[⟨i,t,st.M.length,ti⟩])=m+1:=by
     simp only[eG,List.filter_append,List.length_append];have e1:(D.filter λd=>!y d.i)=D.filter λd=>!x d.i:=ayO λd hd=>by rw[aV d hd]
     rw[e1];simp only[eG]at hm;simp[hm,a2]
    have hr:=AN np r _ _ hQ hJ h aB L (by simpa[zg.nD]using h3) bH (m+1) y β H a w bc bI;have ao:iZ y ((D++[(⟨i,t,st.M.length,ti⟩:fu)]).map (·.i)) L=iZ x (D.map (·.i)) L:=by rw[ayQ,aw6,ayS,LI a2];exact Bc (λj hj=>by obtain⟨d,hd,rfl⟩:=ayN.1 hj;exact aV d hd) L
    rw[ao]at hr;have e:(Pz.d i r).len+m=r.len+(m+1):=by simp only[Pz.len];omega
    rw[e];exact hr
   ·exact h.elim
  ·exact h.elim
 | .b r,D,st,Q,QJ,hQ,hJ,h=>λaB L hL hD=>by
  simp only[yH]at h;simp only[uJ,ayt]at hL;refine Ho hD λx β H a w hZ ap=>?_;obtain⟨q,ak,aN⟩:=oH x _ _ _ hL.1;have aq:(zg.nD D).map (·.1)=D.map (·.i):=by simp[zg.nD]
  rw[aq]at ak aN hL;by_cases ag:∀d∈D,x d.i=true
  ·rw[M3 ag];have ao:iZ x (D.map (·.i)) L=iZ (λ_=>true) (D.map (·.i)) L:=Bc (λj hj=>by obtain⟨d,hd,rfl⟩:=ayN.1 hj;exact ag d hd) L;rw[ao];have hW:=hZ.W;rw[Lz ag]at hW;exact eJ np r _ hQ hJ h aB _ hL.2 β H a w (Cc hZ.F D λd hd=>hZ.S d hd (ag d hd)) hW
  ·obtain⟨d0,a3,bw⟩:∃d∈D,x d.i=false:=by
    refine Classical.byContradiction λbe=>ag λd hd=>?_;cases hx:x d.i with
    | true=>rfl
    | false=>exact absurd ⟨d,hd,hx⟩ be
   have aj:q.isEmpty=false:=by
    cases q with
    | nil=>have:=(aN d0.i).2 (.inr ⟨ayN.2 ⟨d0,a3,rfl⟩,bw⟩);exact absurd this (by simp)
    | cons _ _=>rfl
   rw[aj]at ak;simp only[Bool.false_or,ayt,ayL,ayG,ayC]at ak;have hc:=A6 a3 hD.ni bw;have e:(Pz.b r).len+eG x D=((Pz.b r).len+eG x D - 1)+1:=by omega
   rw[e];refine⟨λh0=>(by rw[h0]at ak;simp at ak),λj hj=>?_⟩;rcases(aN j).1 (ak.2 j hj)with h' | ⟨h',aw⟩
   ·cases h'
   ·obtain⟨d,hd,rfl⟩:=ayN.1 h';exact ap d hd aw
 | .p i r,D,st,Q,QJ,hQ,hJ,h=>λaB L hL hD=>by
  simp only[yH]at h;split at h
  ·exact λ_ _ _ _ _ _ _ _=>h.elim
  ·rename_i o ho;simp only[uJ,ayt,ayL]at hL;obtain⟨aD, -,ag,hr⟩:=hL;refine Ho hD λx β H a w hZ ap=>?_;obtain⟨q,ak,aN⟩:=oH x _ _ _ ag;have aq:(zg.nD D).map (·.1)=D.map (·.i):=by simp[zg.nD]
   rw[aq]at ak aN;simp only[ayt,ayG,ayC,ayH,beq_iff_eq]at ak;have e:(Pz.p i r).len+eG x D=((Pz.p i r).len+eG x D - 1)+1:=by simp only[Pz.len];omega
   rw[e];refine⟨λh0=>(by rw[h0]at ak;simp at ak),λj hj=>?_⟩;have done:j∈q->wpOp P ops (QQ C R) j (λa' w'=>GG H (Wb β w.heap.size ((Pz.p i r).Y j)) w w'∧tV P ops (QQ C R) (λj w1 w2=>GG H (Wb β w.heap.size ((Pz.p i r).Y j)) w1 w2) ((Pz.p i r).len+eG x D - 1) ((iZ x (D.map (·.i)) L).setIfInBounds j true) a' w') a w:=λbg=>by
    rcases(aN j).1 bg with h' | ⟨h',aw⟩
    ·cases h'
    ·obtain⟨d,hd,rfl⟩:=ayN.1 h';exact ap d hd aw
   rcases ak.2 j hj with rfl | bg
   ·have hlen:(Pz.p j r).len+eG x D - 1=r.len+eG x D:=by simp only[Pz.len];omega
    rw[hlen];unfold wpOp;simp only[ho];rcases Np h hZ.F with⟨hw,fr,aF,ar,ah⟩ | ⟨hw,fr,aF,ar,be⟩
    ·rw[if_pos hw];left;unfold oB at ah;split at ah
     ·rename_i f args ts aW;split at ah
      ·rename_i xs bJ;obtain⟨hf,bK,a4,ac,Φ,aA,aY,hk⟩:=ah;have bh:(execOp a.eval o).run P w=.ok (.enter f (args.map a.eval)) w:=by
        obtain⟨dst,op,type,pos,after,guard⟩:=o;simp only at aW;subst aW;simp only[execOp,resolve,Act.eval,Deferred.ofValue,Sem.run_bind,Sem.run_pure,Result.andThen_ok,invoke];simpa using hf (args.map a.eval) w
       simp only[Oper.wp,bh,Oper.upon];have aZ:=m9 ar _ _ bJ;have bx:=hZ.wok hD;have aL:=jz bx aA ⟨λk e _ hk=>by rw[a4]at hk;cases hk⟩ aZ;have aG:=aY H w _ bx.IE aL;rw[show(args.toList.map a.eval).toArray=args.map a.eval from by apply Array.ext';simp]at aG;refine Calls.mono aG ?_;rintro e' w' ⟨H',v,z,rfl,g1,g2,g3,g4,g5,g6⟩;have bL:jl β H' st.n (fg o.dst (some z) fr) (a.put o.dst v):=(ar.mono (λ_ _ h=>h) g3).fg bK (g1.up (λk d hd=>by simp[o4]at hd) (λ_ _ h=>h));have ab:=A8 ho aD;have bi:ZS C st.n (fg o.dst (some z) fr) st.M D x β H' (a.put o.dst v) w':=by
        refine⟨bL,hZ.W.after g6 g3 g4 g5,λd hd hx=>?_,hZ.N⟩;obtain⟨v',aK,ad⟩:=hZ.S d hd hx;refine⟨v',?_,ad.up (λ_ _ h=>h) g3⟩;cases a3:o.dst with
        | none=>exact aK
        | some s=>simp only[Act.put];rw[awS (ab d hd s a3)];exact aK
       have am:=AN np r D ⟨st.n,fg o.dst (some z) fr,st.M⟩ hJ hJ (hk z g2) aB _ hr (hD.frame λd hd=>vk (aF _ (hD.fr d hd)) (ab d hd)) _ x β H' _ w' rfl bi;rw[sj]at am;refine⟨⟨⟨g6.size,λb hb _=>g6.block b hb⟩,uU.mono (H':=H') g5.1 g3⟩,?_⟩;refine oA _ _ _ _ (λj' w1 w2 _ bA=>⟨bA.1.mono λb _ hb=>?_,bA.2.mono g3⟩) am;obtain⟨b1,b2⟩:=hb;exact⟨b1,b2.imp id (Or.imp (λh=>Nat.le_trans g6.size h) id)⟩
      ·exact ah.elim
     ·exact ah.elim
    ·rw[if_neg (by simp[hw])];have ab:=A8 ho aD;have bi:=hZ.put ar ab;have am:=AN np r D ⟨st.n,fr,st.M⟩ hQ hJ be aB _ hr (hD.frame λd hd=>aF _ (hD.fr d hd) (ab d hd)) _ x β H _ w rfl bi;rw[sj]at am;exact⟨⟨RS.EC w,hZ.W.inv⟩,am⟩
   ·exact done bg
 | .q i ks r,D,st,Q,QJ,hQ,hJ,h=>λaB L hL hD m x β H a w hm hZ=>by
  simp only[uJ,ayt,ayL]at hL;obtain⟨aD, -,ag,hL⟩:=hL;obtain⟨qq,hq, -⟩:=oH x _ _ _ ag;have aq:(zg.nD D).map (·.1)=D.map (·.i):=by simp[zg.nD]
  rw[aq]at hq;have hF:=hZ.F;have hW:=hZ.wok hD;simp only[yH]at h;split at h
  ·exact h.elim
  ·rename_i o ho;have ab:=A8 ho aD;simp only[Vr,ho,ayt]at hq;obtain⟨h1,h2,h3,h4,h5⟩:=hq;simp only[ayG,ayt,ayL]at h4
   let Dd:Nat->Bool:=λj=>(QT ops i).contains j
   let U:Nat->Prop:=λb=>∃j,j<ops.size∧j≠i∧Dd j=false∧(iZ x (D.map (·.i)) L).getD j true=false∧Wb β w.heap.size (r.Y j) b
   have bN:(∃t x,o.op=.load t x)->∀b,U b->b<w.heap.size->tY∈ks∨∃k∈ks,∃d,β k=some (some d)∧d.b=b:=by
    rintro⟨t',x',aW⟩ b ⟨j,bj,bk,bl,bm,bR,a5⟩ hb;obtain⟨dst,op,type,pos,after,guard⟩:=o;simp only at aW;subst aW;simp only[ayG,List.mem_range,ayH,beq_iff_eq]at h5;have a4:∀k∈r.Y j,k∈ks:=λk hk=>by
     rcases h5 j bj with h | h | h | h
     ·exact absurd h bk
     ·rw[bm]at h;cases h
     ·rw[show(QT ops i).contains j=false from bl]at h;cases h
     ·have:=h k hk;simpa using this
    rcases a5 with a5 | a5 | ⟨k,hk,d,hd,bO⟩
    ·exact .inl (a4 _ a5)
    ·omega
    ·exact .inr ⟨k,a4 k hk,d,hd,bO⟩
   have core:∀v,YieldsIf P ops (λw'=>RS U w w'∧uU H w') o v a->(∃fr,(∀d∈D,get fr d.t=none)∧jl β H st.n fr (a.put o.dst v)∧yH P C ops D r ⟨st.n,fr,st.M⟩ Q QJ)->tV P ops (QQ C R) (λj w1 w2=>GG H (Wb β w.heap.size ((Pz.q i ks r).Y j)) w1 w2) ((Pz.q i ks r).len+m) (iZ x (D.map (·.i)) L) a w:=by
    rintro v hy ⟨fr,aF,ar,hv⟩;have e:(Pz.q i ks r).len+m=(r.len+m)+1:=by simp only[Pz.len];omega
    rw[e];refine w8 (D:=Dd) (S:=λw'=>RS U w w'∧uU H w') ho (Region.noSelect_spec aB) (λc a' w' ⟨st',hp,_⟩=>absurd hp (np c st')) (λj oj hj bP=>?_) (λw1 hs=>⟨RS.EC w1,hs.2⟩) _ _ a w ?_ (λj hj=>?_) (Region.free_spec ho h2) (by simpa using h3) hy ⟨RS.EC w,hW.inv⟩ ?_
    ·have:=h4 j (by simpa[Dd]using hj);rw[bP]at this;simp only[Array.any_eq_true',ayt,ayH,beq_iff_eq]at this;exact this.2
    ·intro j w1 w2 bj bk bl bm hs hg;exact⟨hs.1.trans hg.1 λb _ hb=>⟨j,bj,bk,bl,bm,hb⟩,hg.2⟩
    ·exact(h4 j (by simpa[Dd]using hj)).1
    ·have am:=AN np r D ⟨st.n,fr,st.M⟩ hQ hJ hv aB _ hL (hD.frame aF) m x β H _ w hm (hZ.put ar ab);rw[sj]at am;exact am
   rcases Np h hF with⟨hw,fr,aF,ar,hi,ah⟩ | ⟨hw,fr,aF,ar,bn⟩
   ·obtain⟨c,y,hy,hc,hd,bQ⟩:=tR h1 hi ah;obtain⟨v,a8,aQ⟩:=HL (st:=⟨st.n,fr,st.M⟩) hW ar hy hc hi bN;exact core v (.inl ⟨hw,a8⟩) ⟨_,λd ai=>vk (aF _ (hD.fr d ai)) (ab d ai),ar.fg hd aQ,bQ⟩
   ·exact core undef (.inr ⟨hw,rfl⟩) ⟨fr,λd ai=>aF _ (hD.fr d ai) (ab d ai),ar,bn⟩
theorem aa.jB{id:Nat}(pl:Pz)(hm:P.follows .mixedOrders=true)(hp:(ayx ops&&(uJ ops [] (Array.replicate ops.size false) pl&&decide (pl.len<=ops.size)))=true)(np:∀c st,¬QJ (.panic c) st)
  (h:yH P C ops [] pl st QJ QJ):aa P C (.region id ops true) st QJ:=by
 simp only[ayt,decide_eq_true_eq]at hp;rintro a w ⟨β,H,hF,hW⟩;have hD:zg P ops st.n st.fr st.M []:=⟨by simp,by simp,by simp,by simp,by simp,by simp,by simp⟩;have hj:=AN np pl [] st (λ_ _ h=>h) (λ_ _ h=>h) h hp.1 _ hp.2.1 hD 0 (λ_=>false) β H a _ rfl ⟨hF,hW.drew,by simp,by simp⟩;exact wp_region_any hm (zc _ _ _ _ (Ef hp.2.2 hj))
end
/-! how simp runs it -/
def Xg(P:Program)(C:Ctx)(ops:Array Oper)(D:List fu)(r:Pz)(Q QJ:bf)(st:St):Prop:=yH P C ops D r st Q QJ
def njZ(P:Program)(C:Ctx)(ops:Array Oper)(D:List fu)(r:Pz)(QJ:bf)(st:St):Prop:=yH P C ops D r st QJ QJ
def KU(d:Option Tmp)(st:St)(next:St->Prop)(z:SV):Prop:=next ⟨st.n,fg d (some z) st.fr,st.M⟩
def Jp(P:Program)(f:FuncId)(xs:Option (List SV))(d:Option Tmp)(st:St)(next:St->Prop):Prop:=match xs with
 | some xs=>au P f∧BV d st.n∧E3 P f xs st.M (KU d st next)
 | none=>False
section
variable {P:Program} {C:Ctx} {st:St} {Q QJ:bf} {l:List Oper} {D:List fu} {d:Option Tmp} {op:Op} {t:TypeId} {p:String} {af:Array Edge} {g:Option (Nat × Bool)} {o:Oper} {r:Pz} {i:Nat} {ks:List Nat} {next:St->Prop}
@[simp] theorem ah0:Xg P C l.toArray D r Q QJ st=yH P C l.toArray D r st Q QJ:=rfl
@[simp] theorem ahS:njZ P C l.toArray D r QJ st=yH P C l.toArray D r st QJ QJ:=rfl
@[simp] theorem alb{z:SV}:KU d st next z=next ⟨st.n,fg d (some z) st.fr,st.M⟩:=rfl
@[simp] theorem Ub{f:FuncId}{xs:List SV}:Jp P f (some xs) d st next=(au P f∧BV d st.n∧E3 P f xs st.M (KU d st next)):=rfl
def zQ(P:Program)(C:Ctx)(l:List Oper)(D:List fu)(ks:List Nat)(o:Oper)(r:Pz)(Q QJ:bf)(st:St):Prop:=H8 ks st o.op∧cO P C none o st (Xg P C l.toArray D r Q QJ) noJ
def zP(P:Program)(C:Ctx)(l:List Oper)(D:List fu)(o:Oper)(r:Pz)(QJ:bf)(st:St):Prop:=oB P o st (njZ P C l.toArray D r QJ)
@[simp] theorem anE:zQ P C l D ks o r Q QJ st=(H8 ks st o.op∧cO P C none o st (Xg P C l.toArray D r Q QJ) noJ):=rfl
@[simp] theorem al4:zP P C l D o r QJ st=oB P o st (njZ P C l.toArray D r QJ):=rfl
@[simp ↓] theorem QR{f:FuncId}{os:List Operand}{ts:Array TypeId}:oB P ⟨d,.call ⟨.value (.func f),os.toArray,ts⟩,t,p,af,g⟩ st next=Jp P f (BL st.fr os) d st next:=by simp only[oB,Jp];cases BL st.fr os<;>rfl
def oQ(P:Program)(C:Ctx)(l:List Oper)(D:List fu)(ks:List Nat)(o:Option Oper)(r:Pz)(st:St)(Q QJ:bf):Prop:=match o with
 | some o=>gd l.toArray o st (zQ P C l D ks o r Q QJ) (Xg P C l.toArray D r Q QJ)
 | none=>False
def oP(P:Program)(C:Ctx)(l:List Oper)(D:List fu)(o:Option Oper)(r:Pz)(st:St)(Q QJ:bf):Prop:=match o with
 | some o=>gd l.toArray o st (zP P C l D o r QJ) (Xg P C l.toArray D r Q QJ)
 | none=>False
def oT(P:Program)(C:Ctx)(l:List Oper)(D:List fu)(i t:Nat)(ti:Option TI)(r:Pz)(st:St)(Q QJ:bf):Prop:=match ti with
 | some ti=>t<st.n∧yH P C l.toArray (D++[⟨i,t,st.M.length,ti⟩]) r ⟨st.n,del st.fr t,st.M++[none]⟩ Q QJ
 | none=>False
def oD(P:Program)(C:Ctx)(l:List Oper)(D:List fu)(i:Nat)(o:Option Oper)(r:Pz)(st:St)(Q QJ:bf):Prop:=match o with
 | some ⟨some t,.alloc T,_,_,_,none⟩=>oT P C l D i t (an P T) r st Q QJ
 | _=>False
@[simp] theorem ajO:oQ P C l D ks (some o) r st Q QJ=gd l.toArray o st (zQ P C l D ks o r Q QJ) (Xg P C l.toArray D r Q QJ):=rfl
@[simp] theorem ajh:oP P C l D (some o) r st Q QJ=gd l.toArray o st (zP P C l D o r QJ) (Xg P C l.toArray D r Q QJ):=rfl
@[simp] theorem aiR{t:Nat}{ti:TI}:oT P C l D i t (some ti) r st Q QJ=(t<st.n∧yH P C l.toArray (D++[⟨i,t,st.M.length,ti⟩]) r ⟨st.n,del st.fr t,st.M++[none]⟩ Q QJ):=rfl
@[simp] theorem aiB{t':Nat}{T:TypeId}:oD P C l D i (some ⟨some t',.alloc T,t,p,af,none⟩) r st Q QJ=oT P C l D i t' (an P T) r st Q QJ:=rfl
@[simp] theorem ako:Pz.qs [] r=r:=rfl
@[simp] theorem agi{is:List Nat}:Pz.qs (i::is) r=.q i [] (Pz.qs is r):=rfl
@[simp ↓] theorem as9{r:Pl}:yH P C l.toArray D (.b r) st Q QJ=fQ P C l.toArray r ⟨st.n,qS D st.fr,xN D st.M⟩ Q QJ:=rfl
@[simp ↓] theorem ao1:yH P C l.toArray D (.q i ks r) st Q QJ=oQ P C l D ks (nU l i) r st Q QJ:=by simp only[yH,mv];cases nU l i<;>rfl
@[simp ↓] theorem asS:yH P C l.toArray D (.p i r) st Q QJ=oP P C l D (nU l i) r st Q QJ:=by simp only[yH,mv];cases nU l i<;>rfl
@[simp ↓] theorem atl:yH P C l.toArray D (.d i r) st Q QJ=oD P C l D i (nU l i) r st Q QJ:=by simp only[yH,mv,oD,oT]
@[simp] theorem Vc{fr:List (Nat × SV)}:qS [] fr=fr:=rfl
@[simp] theorem UC{d:fu}{fr:List (Nat × SV)}:qS (d::D) fr=(d.t,.ptr d.k 0 0)::qS D fr:=rfl
@[simp] theorem XN{M:aC}:xN [] M=M:=rfl
@[simp] theorem VM{d:fu}{M:aC}:xN (d::D) M=aX (xN D M) d.k (N7 d):=by rw[dL];rfl
@[simp] theorem ajm{i t k:Nat}{ti:TI}:N7 ⟨i,t,k,ti⟩=some ⟨ti.size,[ti.dm],false⟩:=rfl
end
theorem aeB{P:Program}{f:FuncId}{args ac:List SV}{y:SV}{M:aC}{k:SV->Prop}(h:aE P f ac y)(a0:SV.uM args=[])(hs:cP M args ac)(hk:k y):E3 P f args M k :=
 ⟨a0,ac,_,hs,h,λx hx=>by rw[hx];exact hk⟩
mutual
theorem fV(M:aC):∀x:SV,x.pure=true->Sub M x x
 | .val v,_=>by simp only[Sub]
 | .ptr _ _ _,h=>by simp[SV.pure]at h
 | .view _ _ _,h=>by simp[SV.pure]at h
 | .mp _,h=>by simp[SV.pure]at h
 | .ro _,_=>rfl
 | .dG _ _,_=>rfl
 | .fT _ _,_=>rfl
 | .any,_=>rfl
 | .j7 _ l r,h=>by simp only[SV.pure,ayt]at h;simp only[Sub];exact⟨trivial,jy M l h.1,jy M r h.2⟩
 | .agg l,h=>by simp only[Sub];exact jy M l (by simpa[SV.pure]using h)
 | .bM l,h=>by simp only[Sub];exact jy M l (by simpa[SV.pure]using h)
 | .ju _ x,h=>by simp only[Sub];exact⟨trivial,fV M x (by simpa[SV.pure]using h)⟩
theorem jy(M:aC):∀l:List SV,SV.bF l=true->cP M l l
 | [],_=>by simp only[cP]
 | x::l,h=>by simp only[SV.bF,ayt]at h;simp only[cP];exact⟨fV M x h.1,jy M l h.2⟩
end
mutual
theorem JX:∀x:SV,x.pure=true->x.ks=[]
 | .val _,_=>rfl
 | .ptr _ _ _,h=>by simp[SV.pure]at h
 | .view _ _ _,h=>by simp[SV.pure]at h
 | .mp _,h=>by simp[SV.pure]at h
 | .ro _,_=>rfl
 | .dG _ _,_=>rfl
 | .fT _ _,_=>rfl
 | .any,_=>rfl
 | .j7 _ l r,h=>by simp only[SV.pure,ayt]at h;simp[SV.ks,kH l h.1,kH r h.2]
 | .agg l,h=>by simp only[SV.ks];exact kH l (by simpa[SV.pure]using h)
 | .bM l,h=>by simp only[SV.ks];exact kH l (by simpa[SV.pure]using h)
 | .ju _ x,h=>by simp only[SV.ks];exact JX x (by simpa[SV.pure]using h)
theorem kH:∀l:List SV,SV.bF l=true->SV.uM l=[]
 | [],_=>rfl
 | x::l,h=>by simp only[SV.bF,ayt]at h;simp[SV.uM,JX x h.1,kH l h.2]
end
theorem ae{P:Program}{C:Ctx}{f:FuncId}{args:List SV}{y:SV}{M:aC}{W:Option (List Nat)}{k:aC->List Nat->SV->Prop}(h:aE P f args y)(hp:SV.bF args=true)(hk:k M [] y):dK P C f args M W k :=
 bz h (jy M args hp) (by rw[kH args hp];exact hk)
theorem awI{P:Program}{C:Ctx}{f:FuncId}{a:List SV}{y:SV}{M:aC}{W:Option (List Nat)}{k:aC->List Nat->SV->Prop}(h:aE P f a y)(g:k M [] y)(p:SV.bF a=true:=by simp):dK P C f a M W k:=ae h p g
theorem ff{P:Program}{f:FuncId}{args:List SV}{y:SV}{M:aC}{k:SV->Prop}(h:aE P f args y)(hp:SV.bF args=true)(hk:k y):E3 P f args M k :=
 aeB h (kH args hp) (jy M args hp) hk
end Go.Sv

