/- A text of the prover's own. -/
import Derived.Test.YtnimjdcaajmfcaaGreatDoorBVy
open Go.Region renaming ready->awO,noSelect->awQ,wanted->awM
open Array renaming setIfInBounds_comm->aty,getElem?_setIfInBounds_ne->ast
open Bool renaming or_eq_true->atv,and_eq_true->atl,not_eq_true'->atz
open List renaming mem_cons->atf,mem_append->ath,getElem?_set_ne->asZ,map_cons->asF,nodup_cons->atA,mem_map->atB,getElem?_eq_none->asu,filter_cons->atx,filter_congr->atC,all_eq_true->atu,cons_append->as8,any_eq_true->atD,mem_singleton->atg,map_append->atE,nodup_append->atF,map_nil->atG,contains_iff_mem->atq
open Option.some renaming injEq->ass
namespace Go.Sv
open Go Go.RowKit
structure eK where
 i:Nat
 t:Nat
 k:Nat
 ti:TI
inductive Pz
 | q (i:Nat) (ks:List Nat) (r:Pz)
 | p (i:Nat) (r:Pz)
 | d (i:Nat) (r:Pz)
 | b (r:Pl)
def Pz.qs:List Nat->Pz->Pz
 | [],r=>r
 | i::is,r=>.q i [] (Pz.qs is r)
def Pz.Y:Pz->Nat->List Nat
 | .q _ _ r,x=>r.Y x
 | .p _ r,x=>r.Y x
 | .d _ r,x=>r.Y x
 | .b r,x=>r.Y x
def Pz.len:Pz->Nat
 | .q _ _ r=>r.len+1
 | .p _ r=>r.len+1
 | .d _ r=>r.len+1
 | .b r=>r.len
def iw(x:Nat->Bool):List Nat->Array Bool->Array Bool
 | [],L=>L
 | i::D,L=>if x i=true then(iw x D L).setIfInBounds i true else iw x D L
def Hg:List Nat->List Nat->Array Bool->(Array Bool->List Nat->Bool)->Bool
 | [],p,L,f=>f L p
 | i::D,p,L,f=>Hg D (p++[i]) L f&&Hg D p (L.setIfInBounds i true) f
def IL(ops:Array Oper)(i:Nat)(D:List (Nat × Nat)):Bool:=match ops[i]? with
 | some o=>match o.dst with
  | some t=>D.all λd=>d.2 != t
  | none=>true
 | none=>false
def sE(ops:Array Oper):List (Nat × Nat)->Array Bool->Pz->Bool
 | D,L,.d i r=>(match ops[i]? with
  | some ⟨some t,.alloc _,_,_,_,none⟩=>!(D.any λd=>d.1==i)&&(!(D.any λd=>d.2==t)&&sE ops (D++[(i,t)]) L r)
  | _=>false)
 | D,L,.q i ks r=>IL ops i D&&(!(D.any λd=>d.1==i)&&(Hg (D.map (·.1)) [] L (λL' _=>Uu ops L' i ks r.Y)&&sE ops D (L.setIfInBounds i true) r))
 | D,L,.p i r=>IL ops i D&&(!(D.any λd=>d.1==i)&&(Hg (D.map (·.1)) [] L (λL' au=>(awO .any ops L').contains i&&(awO .any ops L').all λj=>j==i||au.contains j)&&sE ops D (L.setIfInBounds i true) r))
 | D,L,.b r=>Hg (D.map (·.1)) [] L (λL' au=>au.isEmpty||(!(awO .any ops L').isEmpty&&(awO .any ops L').all λj=>au.contains j))&&ax ops (iw (λ_=>true) (D.map (·.1)) L) r
def DN(P:Program)(f:FuncId)(xs:List SV)(M:aD)(K:SV->Prop):Prop:=SV.uB xs=[]∧∃ac Φ,cK M xs ac∧rC P f ac Φ∧∀x,Φ x->K x
def mR(P:Program)(o:Oper)(st:St)(K:St->Prop):Prop:=match o.op with
 | .call ⟨.value (.func f),args,_⟩=>match zE st.fr args.toList with
  | some xs=>av P f∧zO o.dst st.n∧DN P f xs st.M λx=>K ⟨st.n,eI o.dst (some x) st.fr,st.M⟩
  | none=>False
 | _=>False
def MY(d:eK):Option cz:=some ⟨d.ti.size,[d.ti.cR],false⟩
def pj:List eK->List (Nat × SV)->List (Nat × SV)
 | [],fr=>fr
 | d::D,fr=>(d.t,.ptr d.k 0 0)::pj D fr
def vY:List eK->aD->aD
 | [],M=>M
 | d::D,M=>(vY D M).set d.k (MY d)
def wo(P:Program)(C:Ctx)(ops:Array Oper):List eK->Pz->St->bf->bf->Prop
 | D,.d i r,st,Q,QJ=>(match ops[i]? with
  | some ⟨some t,.alloc T,_,_,_,none⟩=>match an P T with
   | some ti=>t<st.n∧wo P C ops (D++[⟨i,t,st.M.length,ti⟩]) r ⟨st.n,del st.fr t,st.M++[none]⟩ Q QJ
   | none=>False
  | _=>False)
 | D,.q i ks r,st,Q,QJ=>match ops[i]? with
  | none=>False
  | some o=>gd ops o st (λst'=>G0 ks st' o.op∧cH P C none o st' (λaI=>wo P C ops D r aI Q QJ) (λ_=>False)) (λst'=>wo P C ops D r st' Q QJ)
 | D,.p i r,st,Q,QJ=>match ops[i]? with
  | none=>False
  | some o=>gd ops o st (λst'=>mR P o st' (λaI=>wo P C ops D r aI QJ QJ)) (λst'=>wo P C ops D r st' Q QJ)
 | D,.b r,st,Q,QJ=>fu P C ops r ⟨st.n,pj D st.fr,vY D st.M⟩ Q QJ
section
variable {P:Program} {C:Ctx} {ops:Array Oper} {L:Array Bool} {Q QJ:bf} {st:St} {β:ca} {H:Hp} {a:Act} {w:World} {M:aD}
theorem p4(x:Nat->Bool)(D:List Nat)(L:Array Bool)(i:Nat):iw x D (L.setIfInBounds i true)=(iw x D L).setIfInBounds i true:=by
 induction D with
 | nil=>rfl
 | cons j D ih =>
  simp only[iw];rw[ih];split
  ·by_cases e:i=j
   ·subst e;rfl
   ·rw[aty _ _ e]
  ·rfl
def iC(x:Nat->Bool)(j:Nat):Nat->Bool:=λi=>x i||i==j
theorem JZ(x:Nat->Bool)(j:Nat)(D:List Nat)(L:Array Bool):iw (iC x j) D L=if j∈D then(iw x D L).setIfInBounds j true else iw x D L:=by
 induction D with
 | nil=>rfl
 | cons i D ih =>
  simp only[iw,iC,ih];by_cases e:i=j
  ·subst e;simp only[beq_self_eq_true,Bool.or_true,if_true,atf,true_or];split<;>split<;>simp
  ·have e':¬j=i:=λh=>e h.symm;simp only[beq_iff_eq,e,e',atv,or_false,atf,false_or];split
   ·split
    ·rw[aty _ _ e']
    ·rfl
   ·rfl
theorem mJ{f:Array Bool->List Nat->Bool}(x:Nat->Bool):∀(D p:List Nat) (L:Array Bool),Hg D p L f=true ->
  ∃q,f (iw x D L) q=true∧∀j,j∈q↔j∈p∨(j∈D∧x j=false)
 | [],p,L,h=>⟨p,h,λj=>by simp⟩
 | i::D,p,L,h=>by
  simp only[Hg,atl]at h;simp only[iw];by_cases hx:x i=true
  ·obtain⟨q,h1,h2⟩:=mJ x D p _ h.2;rw[p4]at h1;rw[if_pos hx];refine⟨q,h1,λj=>?_⟩;rw[h2 j];simp only[atf];constructor
   ·rintro(h | h)
    ·exact .inl h
    ·exact .inr ⟨.inr h.1,h.2⟩
   ·rintro(h | ⟨h | h,h'⟩)
    ·exact .inl h
    ·subst h;rw[hx]at h';cases h'
    ·exact .inr ⟨h,h'⟩
  ·obtain⟨q,h1,h2⟩:=mJ x D _ L h.1;rw[if_neg hx];refine⟨q,h1,λj=>?_⟩;rw[h2 j];simp only[ath,atf,List.not_mem_nil,or_false];have aw:x i=false:=by simpa using hx
   constructor
   ·rintro((h | h) | h)
    ·exact .inl h
    ·subst h;exact .inr ⟨.inl rfl,aw⟩
    ·exact .inr ⟨.inr h.1,h.2⟩
   ·rintro(h | ⟨h | h,h'⟩)
    ·exact .inl (.inl h)
    ·exact .inl (.inr h)
    ·exact .inr ⟨h,h'⟩
/-! the table, with those that have come -/
def eZ(x:Nat->Bool):List eK->aD->aD
 | [],M=>M
 | d::D,M=>if x d.i=true then(eZ x D M).set d.k (MY d) else eZ x D M
theorem vj(x:Nat->Bool)(D:List eK)(M:aD):(eZ x D M).length=M.length:=by
 induction D with
 | nil=>rfl
 | cons d D ih=>simp only[eZ];split<;>simp[ih]
theorem vM{x:Nat->Bool}{D:List eK}{M:aD}{k:Nat}(h:∀d∈D,x d.i=true->d.k≠k):(eZ x D M)[k]?=M[k]?:=by
 induction D with
 | nil=>rfl
 | cons d D ih =>
  have ih:=ih λe he=>h e (by simp[he]);simp only[eZ];split
  ·rename_i hx;rw[asZ (h d (by simp) hx)];exact ih
  ·exact ih
theorem JT{x:Nat->Bool}{D:List eK}{M:aD}(h:∀d∈D,M[d.k]?=some none){k:Nat}{e:cz}(hk:M[k]?=some (some e)):(eZ x D M)[k]?=some (some e):=by
 rw[vM λd hd _ e'=>?_]
 ·exact hk
 ·have:=h d hd;rw[e',hk]at this;cases this
theorem GD{x:Nat->Bool}{D:List eK}{M:aD}{d:eK}(hd:d∈D)(hn:(D.map (·.i)).Nodup)(hk:(D.map (·.k)).Nodup):eZ (iC x d.i) D M=(eZ x D M).set d.k (MY d):=by
 induction D with
 | nil=>cases hd
 | cons c D ih =>
  simp only[asF,atA]at hn hk;simp only[eZ];rcases atf.1 hd with rfl | hd
  ·have aO:∀e∈D,e.i≠d.i:=λe he h=>hn.1 (atB.2 ⟨e,he,h⟩);have al:eZ (iC x d.i) D M=eZ x D M:=by
    clear ih hn hk
    induction D with
    | nil=>rfl
    | cons e D bB =>
     simp only[eZ];rw[bB (by simp) λe' bC=>aO e' (by simp[bC])];have:iC x d.i e.i=x e.i:=by simp[iC,aO e (by simp)]
     rw[this]
   rw[al,if_pos (by simp[iC])];split
   ·simp
   ·rfl
  ·have aj:c.i≠d.i:=λh=>hn.1 (atB.2 ⟨d,hd,h.symm⟩);have bD:c.k≠d.k:=λh=>hk.1 (atB.2 ⟨d,hd,h.symm⟩);have:iC x d.i c.i=x c.i:=by simp[iC,aj]
   rw[this,ih hd hn.2 hk.2];split
   ·rw[List.set_comm _ _ bD.symm]
   ·rfl
theorem cJ.OD(h:cJ C β H M w){k:Nat}(a1:M[k]?=some none)(bE:β k=none){cs:Array Value}{T:TypeId}{s:Nat}{es:List SV}{vs:List Value}(hd:aW β H s es vs)(hl:vs.length<=cs.size)
  (hc:∀i,i<vs.length->cs[i]?=vs[i]?) :
  cJ C (β.ef k (some ⟨w.heap.size,cs.size,s⟩)) H (M.set k (some ⟨s,es,false⟩)) (w.alloc (.cells cs T)):=by
 have up:∀j d,β j=some d->(β.ef k (some ⟨w.heap.size,cs.size,s⟩)) j=some d:=λj d hj=>by simp only[ca.ef];rw[if_neg];exact hj;intro e;subst e;rw[bE]at hj;cases hj
 have aQ:k<M.length:=by
  rcases Nat.lt_or_ge k M.length with h' | h'
  ·exact h'
  ·rw[asu h']at a1;cases a1
 have cases':∀{j:Nat} {e:cz},(M.set k (some ⟨s,es,false⟩))[j]?=some (some e)->(j≠k∧M[j]?=some (some e))∨(j=k∧e=⟨s,es,false⟩):=λ{j e} hj=>by
  by_cases ej:j=k
  ·subst ej;rw[List.getElem?_set_self aQ]at hj;simp only[ass]at hj;exact .inr ⟨rfl,hj.symm⟩
  ·rw[asZ (Ne.symm ej)]at hj;exact .inl ⟨ej,hj⟩
 exact{
  os:=h.os,tape:=h.tape,output:=h.output
  size:=by have:=h.size;simp;omega
  frame:=λb hb hx=>by rw[heap_alloc_old (by have:=h.size;omega)];exact h.frame b hb hx
  ext:=h.ext,new:=h.new
  inv:=λb bp hb=>by obtain⟨T',z,h'⟩:=h.inv b bp hb;exact⟨T',z,by rw[heap_alloc_old (jq h')];exact h'⟩
  dt:=λj e hj=>by
   rcases cases' hj with⟨aj,aM⟩ | ⟨rfl,rfl⟩
   ·exact(h.dt j e aM).up up (λ_ _ h=>h) (λd ai=>heap_alloc_old (h.lt aM ai))
   ·exact .inr (.inl ⟨_,cs,T,vs,by simp[ca.ef];rfl,rfl,heap_alloc_new,rfl,aW.mono (λ_ _ h=>h) _ _ _ (λk d _=>up k d) hd,hl,hc,λhf=>by cases hf⟩)
  own:=λj e d hj ai=>by
   rcases cases' hj with⟨aj,aM⟩ | ⟨rfl,rfl⟩
   ·simp only[ca.ef]at ai;rw[if_neg aj]at ai;exact h.own j e d aM ai
   ·simp only[ca.ef,if_true,ass]at ai;subst ai;refine⟨λ_=>?_,.inl h.size⟩;cases hH:H w.heap.size with
    | none=>rfl
    | some bp=>have:=h.aP hH;omega
  inj:=λj j' e e' d d' hj aM ay az hb=>by
   rcases cases' hj with⟨bq,br⟩ | ⟨rfl,rfl⟩<;>rcases cases' aM with⟨bs,bt⟩ | ⟨rfl,rfl⟩
   ·simp only[ca.ef]at ay az;rw[if_neg bq]at ay;rw[if_neg bs]at az;exact h.inj j j' e e' d d' br bt ay az hb
   ·simp only[ca.ef]at ay az;rw[if_neg bq]at ay;simp only[if_true,ass]at az;subst az;have:=h.lt br ay;simp only at hb;omega
   ·simp only[ca.ef]at ay az;rw[if_neg bs]at az;simp only[if_true,ass]at ay;subst ay;have:=h.lt bt az;simp only at hb;omega
   ·rfl
  fresh:=λj hj=>by simp only[List.length_set]at hj;simp only[ca.ef];rw[if_neg (by omega)];exact h.fresh j hj
  im:=λj d hj hd=>up j d (h.im j d hj hd)
  fT:=h.fT }
theorem cJ.sub{M':aD}(h:cJ C β H M w)(hl:M'.length=M.length)(hs:∀(k:Nat) (e:cz),M'[k]?=some (some e)->M[k]?=some (some e)):cJ C β H M' w :=
 ⟨h.os,h.tape,h.output,h.size,h.frame,h.ext,h.new,h.inv,λk e hk=>h.dt k e (hs k e hk),λk e d hk=>h.own k e d (hs k e hk),λk k' e e' d d' hk a7=>h.inj k k' e e' d d' (hs k e hk) (hs k' e' a7),λk hk=>h.fresh k (by omega),h.im,h.fT⟩
structure ZS(C:Ctx)(n:Nat)(fr:List (Nat × SV))(M:aD)(D:List eK)(x:Nat->Bool)(β:ca)(H:Hp)(a:Act)(w:World):Prop where
 F:iM β H n fr a
 W:cJ C β H (eZ x D M) w
 S:∀d∈D,x d.i=true->∃v,a.tmps[d.t]?=some v∧Den β H (.ptr d.k 0 0) v
 N:∀d∈D,x d.i=false->β d.k=none
structure wX(P:Program)(ops:Array Oper)(n:Nat)(fr:List (Nat × SV))(M:aD)(D:List eK):Prop where
 o:∀d∈D,∃T ty p af,ops[d.i]?=some ⟨some d.t,.alloc T,ty,p,af,none⟩∧an P T=some d.ti
 ni:(D.map (·.i)).Nodup
 nk:(D.map (·.k)).Nodup
 M:∀d∈D,M[d.k]?=some none
 t:∀d∈D,d.t<n
 nt:(D.map (·.t)).Nodup
 fr:∀d∈D,get fr d.t=none
def wX.mf(D:List eK):List (Nat × Nat):=D.map λd=>(d.i,d.t)
theorem mY{α:Type}(f:α->Nat):∀{D:List α},(D.map f).Nodup->∀{a b:α},a∈D->b∈D->f a=f b->a=b
 | [],_,_,_,h,_,_=>by cases h
 | c::D,hn,a,b,ha,hb,e=>by
  simp only[asF,atA]at hn;obtain⟨h1,h2⟩:=hn;rcases atf.1 ha with ea | bu<;>rcases atf.1 hb with eb | bv
  ·rw[ea,eb]
  ·subst ea;exact absurd (atB.2 ⟨b,bv,e.symm⟩) h1
  ·subst eb;exact absurd (atB.2 ⟨a,bu,e⟩) h1
  ·exact mY f h2 bu bv e
theorem sN{fr:List (Nat × SV)}{t:Nat}{d:Option Tmp}{x:Option SV}(h:get fr t=none)(hd:∀s,d=some s->s≠t):get (eI d x fr) t=none:=by
 cases d with
 | none=>cases x<;>exact h
 | some s=>cases x with
  | none =>
   cases hg:get (eI (some s) none fr) t with
   | none=>rfl
   | some y=>rw[(lF hg).2]at h;cases h
  | some y=>simp only[eI,get];rw[if_neg (hd s rfl)];exact h
theorem nJ{fr:List (Nat × SV)}{t s:Nat}(h:get fr t=none∨t=s):get (del fr s) t=none:=by
 cases hg:get (del fr s) t with
 | none=>rfl
 | some y =>
  obtain⟨h1,h2⟩:=lF hg;rcases h with h | h
  ·rw[h]at h2;cases h2
  ·exact absurd h h1
theorem ZS.ahl{n:Nat}{fr:List (Nat × SV)}{D:List eK}{x:Nat->Bool}(hD:wX P ops n fr M D)(h:ZS C n fr M D x β H a w){d:eK}(hd:d∈D)(hx:x d.i=false) :
  ∃o v w' bd,ops[d.i]?=some o∧o.guard=none∧(execOp a.eval o).run P w=.ok (.value v) w'∧bd.b=w.heap.size∧w.heap.size<=w'.heap.size∧(∀b,b<w.heap.size->w'.heap[b]?=w.heap[b]?) ∧
   ZS C n fr M D (iC x d.i) (β.ef d.k (some bd)) H (a.put o.dst v) w':=by
 obtain⟨T,ty,p,af,ho,a8⟩:=hD.o d hd;obtain⟨i1,d1,z1,ht⟩:=aF a8;obtain⟨v,a9,aR,bF⟩:=qu ht β H;have aS:(eZ x D M)[d.k]?=some none:=by
  rw[vM λe he aJ hk=>?_]
  ·exact hD.M d hd
  ·have:e=d:=mY _ hD.nk he hd hk;rw[this,hx]at aJ;cases aJ
 have hW:=h.W.OD (T:=T) (cs:=z1.cells) (s:=d.ti.size) (es:=[d.ti.cR]) (vs:=v.cells.toList) aS (h.N d hd hx) (by simp only[aW];exact⟨v,[],by simp,by rw[aR,bF],a9,rfl⟩) (by simp[aR]) (λq hq=>by simp[aR]);have up:∀j e,β j=some e->(β.ef d.k (some ⟨w.heap.size,z1.cells.size,d.ti.size⟩)) j=some e:=λj e hj=>by simp only[ca.ef];rw[if_neg];exact hj;intro e';subst e';rw[h.N d hd hx]at hj;cases hj
 have ba:=hD.t d hd;refine⟨_,.pointer (some ⟨w.heap.size,0,none⟩),w.alloc (.cells z1.cells T),⟨w.heap.size,z1.cells.size,d.ti.size⟩,ho,rfl,?_,rfl,by simp,λb hb=>heap_alloc_old hb,?_,?_,λe he aJ=>?_,λe he aJ=>?_⟩
 ·simp[execOp,Instr.alloc,ht.kJ,newVar,newRow]
 ·have:=(h.F.mono up (λ_ _ h=>h)).skip d.t (.pointer (some ⟨w.heap.size,0,none⟩));refine this.sub λt' y hg=>?_;have aj:t'≠d.t:=λe=>by rw[e,hD.fr d hd]at hg;cases hg
  have key:∀l:List (Nat × SV),get (del l d.t) t'=get l t':=λl=>by
   induction l with
   | nil=>rfl
   | cons q l ih =>
    obtain⟨s,z⟩:=q;simp only[del,atx];by_cases e:s=d.t
    ·subst e;simp only[beq_self_eq_true,Bool.not_true,Bool.false_eq_true,if_false,get];rw[if_neg (Ne.symm aj)];exact ih
    ·simp only[e,atz,beq_eq_false_iff_ne,ne_eq,not_false_eq_true,if_true,get];split
     ·rfl
     ·exact ih
  rw[key];exact hg
 ·rw[GD hd hD.ni hD.nk];exact hW
 ·by_cases e1:e.i=d.i
  ·have:e=d:=mY _ hD.ni he hd e1;subst this;refine⟨_,by simp[Act.put,h.F.2.1,ba];rfl,?_⟩;simp only[Den];exact⟨_,by simp[ca.ef];rfl,by simp⟩
  ·have aw:x e.i=true:=by simpa[iC,e1]using aJ
   obtain⟨v',aK,ad⟩:=h.S e he aw;have aj:d.t≠e.t:=λh'=>e1 (by rw[mY _ hD.nt he hd h'.symm]);refine⟨v',by simp only[Act.put];rw[ast aj];exact aK,ad.up up (λ_ _ h=>h)⟩
 ·have e1:e.i≠d.i:=λh'=>by simp[iC,h']at aJ
  have aw:x e.i=false:=by simpa[iC,e1]using aJ
  have aj:e.k≠d.k:=λh'=>e1 (by rw[mY _ hD.nk he hd h']);simp only[ca.ef];rw[if_neg aj];exact h.N e he aw
def kQ(x:Nat->Bool)(D:List eK):Nat:=(D.filter λd=>!x d.i).length
theorem yp{x:Nat->Bool}{D:List eK}{d:eK}(hd:d∈D)(hn:(D.map (·.i)).Nodup)(hx:x d.i=false):kQ x D=kQ (iC x d.i) D+1:=by
 induction D with
 | nil=>cases hd
 | cons c D ih =>
  simp only[asF,atA]at hn;simp only[kQ,atx];rcases atf.1 hd with rfl | hd
  ·have al:(D.filter λe=>!iC x d.i e.i)=D.filter λe=>!x e.i:=atC λe he=>by
    have:e.i≠d.i:=λh=>hn.1 (atB.2 ⟨e,he,h⟩);simp[iC,this]
   rw[if_pos (by simp[hx]),if_neg (by simp[iC]),al];rfl
  ·have aj:c.i≠d.i:=λh=>hn.1 (atB.2 ⟨d,hd,h.symm⟩);have:=ih hd hn.2;simp only[kQ]at this;have e:iC x d.i c.i=x c.i:=by simp[iC,aj]
   rw[e];split<;>simp[this]
theorem Nj{x:Nat->Bool}{D:List eK}(h:∀d∈D,x d.i=true):kQ x D=0:=by simp only[kQ,List.length_eq_zero_iff,List.filter_eq_nil_iff];intro d hd;simp[h d hd]
theorem N9{k:Nat}{bd:Bd}{s s':Nat}{ks:List Nat}{b:Nat}(hs:s<=s')(hb:bd.b=s)(h:Wb (β.ef k (some bd)) s' ks b):Wb β s ks b:=by
 obtain⟨h1,h2⟩:=h;refine⟨h1,?_⟩;rcases h2 with h2 | h2 | ⟨j,h3,d,h4,h5⟩
 ·exact .inl h2
 ·exact .inr (.inl (by omega))
 ·by_cases e:j=k
  ·subst e;simp only[ca.ef,if_true,ass]at h4;subst h4;exact .inr (.inl (by omega))
  ·simp only[ca.ef]at h4;rw[if_neg e]at h4;exact .inr (.inr ⟨j,h3,d,h4,h5⟩)
def ZJ(P:Program)(C:Ctx)(ops:Array Oper)(pl:Pz)(D:List eK)(st:St)(Q:bf):Prop :=
 awQ ops=true->∀L,sE ops (wX.mf D) L pl=true->wX P ops st.n st.fr st.M D->∀(m:Nat) (x:Nat->Bool) β H a w,kQ x D=m->ZS C st.n st.fr st.M D x β H a w ->
  r8 P ops (QQ C Q) (λj w1 w2=>GG H (Wb β w.heap.size (pl.Y j)) w1 w2) (pl.len+m) (iw x (D.map (·.i)) L) a w
theorem EM{pl:Pz}{D:List eK}(hD:wX P ops st.n st.fr st.M D)
  (step:∀(x:Nat->Bool) β H a w,ZS C st.n st.fr st.M D x β H a w ->
   (∀d∈D,x d.i=false->wpOp P ops (QQ C Q) d.i (λa' w'=>GG H (Wb β w.heap.size (pl.Y d.i)) w w'∧r8 P ops (QQ C Q) (λj w1 w2=>GG H (Wb β w.heap.size (pl.Y j)) w1 w2) (pl.len+kQ x D - 1) ((iw x (D.map (·.i)) L).setIfInBounds d.i true) a' w') a w) ->
   r8 P ops (QQ C Q) (λj w1 w2=>GG H (Wb β w.heap.size (pl.Y j)) w1 w2) (pl.len+kQ x D) (iw x (D.map (·.i)) L) a w) :
  ∀(m:Nat) (x:Nat->Bool) β H a w,kQ x D=m->ZS C st.n st.fr st.M D x β H a w->r8 P ops (QQ C Q) (λj w1 w2=>GG H (Wb β w.heap.size (pl.Y j)) w1 w2) (pl.len+m) (iw x (D.map (·.i)) L) a w:=by
 intro m
 induction m with
 | zero =>
  intro x β H a w hm hZ;have h:=step x β H a w hZ (λd hd hx=>by have:=yp hd hD.ni hx;omega);rw[hm]at h;exact h
 | succ m ih =>
  intro x β H a w hm hZ;have h:=step x β H a w hZ (λd hd hx=>?_)
  ·rw[hm]at h;exact h
  ·obtain⟨o,v,w',bd,h1,h2,h3,h4,h5,h6,h7⟩:=hZ.ahl hD hd hx;have hc:=yp hd hD.ni hx;have am:=ih (iC x d.i) _ H _ w' (by omega) h7;have ao:iw (iC x d.i) (D.map (·.i)) L=(iw x (D.map (·.i)) L).setIfInBounds d.i true:=by
    rw[JZ,if_pos (atB.2 ⟨d,hd,rfl⟩)]
   rw[ao]at am;unfold wpOp;simp only[h1];rw[if_pos (by simp[awM,h2])];left;simp only[Oper.wp,h3,Oper.upon];refine⟨⟨⟨h5,λb hb _=>h6 b hb⟩,λb cs hb=>?_⟩,?_⟩
   ·obtain⟨T,z,hz⟩:=hZ.W.inv b cs hb;exact⟨T,z,by rw[h6 b (jq hz)];exact hz⟩
   ·have e:pl.len+kQ x D - 1=pl.len+m:=by omega
    rw[e];exact nq _ _ _ _ (λj w1 w2 _ hr=>⟨hr.1.mono λb _ hb=>N9 h5 h4 hb,hr.2⟩) am
theorem rD{fr:List (Nat × SV)}{n s:Nat}{d:Option Nat}(h:get fr s=none)(hd:∀t,d=some t->t≠s):get (fp n d fr) s=none:=by
 cases d with
 | none=>exact h
 | some t =>
  simp only[fp];split
  ·simp only[get];rw[if_neg (hd t rfl)];exact h
  ·exact nJ (.inl h)
theorem K2{o:Oper}{yes no:St->Prop}(h:gd ops o st yes no)(hF:iM β H st.n st.fr a) :
  (awM o (yielded ops a.tmps)=true∧∃fr,(∀s,get st.fr s=none->get fr s=none)∧iM β H st.n fr a∧yes ⟨st.n,fr,st.M⟩) ∨
   (awM o (yielded ops a.tmps)=false∧∃fr,(∀s,get st.fr s=none->(∀t,o.dst=some t->t≠s)->get fr s=none)∧iM β H st.n fr (a.put o.dst undef)∧no ⟨st.n,fr,st.M⟩):=by
 unfold gd at h;split at h
 ·rename_i hg;exact .inl ⟨by simp[awM,hg],_,λ_ h=>h,hF,h⟩
 ·rename_i j b hg;split at h
  ·rename_i t ht;split at h
   ·rename_i c hc;obtain⟨v,hv,ad⟩:=hF.2.2 t _ hc;simp only[Den]at ad;obtain⟨rfl, -⟩:=ad;have hy:yielded ops a.tmps j=some c:=by
     unfold yielded;simp only[pD]at ht;rw[ht];simp[hv]
    have aA:∀b',c=b'->iM β H st.n ((t,.val (.bool b'))::st.fr) a:=λb' hb=>by
     subst hb;refine hF.sub λt' x' aT=>?_;simp only[get]at aT;split at aT
     ·rename_i e;subst e;simp only[ass]at aT;subst aT;exact hc
     ·exact aT
    have hn:∀(b':Bool) s,get st.fr s=none->get ((t,.val (.bool b'))::st.fr) s=none:=λb' s hs=>by simp only[get];rw[if_neg];exact hs;intro e;subst e;rw[hs]at hc;cases hc
    by_cases a2:c=b
    ·exact .inl ⟨by simp[awM,hg,hy,a2],_,hn b,aA b a2,h.1 a2⟩
    ·have aU:c=!b:=by cases c<;>cases b<;>simp_all
     exact .inr ⟨by simp[awM,hg,hy,a2],_,λs hs hd=>rD (hn _ s hs) hd,(aA _ aU).fp o.dst,h.2 aU⟩
   ·rename_i hc;obtain⟨v,hv,ad⟩:=hF.2.2 t _ hc;obtain rfl:=zf ad;have hy:yielded ops a.tmps j=none:=by
     unfold yielded;simp only[pD]at ht;rw[ht];simp[hv]
    exact .inr ⟨by simp[awM,hg,hy],_,λs hs hd=>rD hs hd,hF.fp o.dst,h⟩
   ·exact h.elim
  ·exact h.elim
theorem wX.frame{n:Nat}{fr fr':List (Nat × SV)}{D:List eK}(h:wX P ops n fr M D)(hf:∀d∈D,get fr' d.t=none):wX P ops n fr' M D:=⟨h.o,h.ni,h.nk,h.M,h.t,h.nt,hf⟩
theorem zo{D:List eK}{i:Nat}{o:Oper}(ho:ops[i]?=some o)(h:IL ops i (wX.mf D)=true):∀d∈D,∀s,o.dst=some s->s≠d.t:=λd hd s hs e=>by simp only[IL,ho,hs,atu,wX.mf,atB,bne_iff_ne,ne_eq,forall_exists_index,and_imp]at h;exact h _ d hd rfl e.symm
theorem ZS.put{n:Nat}{fr fr':List (Nat × SV)}{D:List eK}{x:Nat->Bool}{d0:Option Tmp}{v:Value}(h:ZS C n fr M D x β H a w)(hF:iM β H n fr' (a.put d0 v))(hd:∀d∈D,∀s,d0=some s->s≠d.t):ZS C n fr' M D x β H (a.put d0 v) w :=
 ⟨hF,h.W,λd ai hx=>by
  obtain⟨v',aK,ad⟩:=h.S d ai hx;refine⟨v',?_,ad⟩;cases d0 with
  | none=>exact aK
  | some s=>simp only[Act.put];rw[ast (hd d ai s rfl)];exact aK,h.N⟩
theorem ZS.wok{n:Nat}{fr:List (Nat × SV)}{D:List eK}{x:Nat->Bool}(hD:wX P ops n fr M D)(h:ZS C n fr M D x β H a w):cJ C β H M w :=
 h.W.sub (by rw[vj]) λk e hk=>JT hD.M hk
theorem EY{x y:Nat->Bool}{D:List eK}(h:∀d∈D,x d.i=y d.i)(M:aD):eZ x D M=eZ y D M:=by
 induction D with
 | nil=>rfl
 | cons d D ih=>simp only[eZ];rw[ih λe he=>h e (by simp[he]),h d (by simp)]
theorem Ke{x:Nat->Bool}{D:List eK}(h:∀d∈D,x d.i=true)(M:aD):eZ x D M=vY D M:=by
 induction D with
 | nil=>rfl
 | cons d D ih=>simp only[eZ,vY];rw[ih λe he=>h e (by simp[he]),if_pos (h d (by simp))]
theorem G9{x:Nat->Bool}{D:List eK}{c:eK}(h:x c.i=false)(M:aD):eZ x (D++[c]) M=eZ x D M:=by
 induction D with
 | nil=>simp[eZ,h]
 | cons d D ih=>simp only[as8,eZ,ih]
theorem Kj{x:Nat->Bool}{D:List eK}{M:aD}(h:∀d∈D,d.k<M.length):eZ x D (M++[none])=eZ x D M++[none]:=by
 induction D with
 | nil=>rfl
 | cons d D ih =>
  simp only[eZ];rw[ih λe he=>h e (by simp[he])];split
  ·rw[List.set_append_left _ _ (by rw[vj];exact h d (by simp))]
  ·rfl
theorem yP{x y:Nat->Bool}{D:List Nat}(h:∀i∈D,x i=y i)(L:Array Bool):iw x D L=iw y D L:=by
 induction D with
 | nil=>rfl
 | cons d D ih=>simp only[iw];rw[ih λe he=>h e (by simp[he]),h d (by simp)]
theorem I9{x:Nat->Bool}{D:List Nat}{c:Nat}(h:x c=false)(L:Array Bool):iw x (D++[c]) L=iw x D L:=by
 induction D with
 | nil=>simp[iw,h]
 | cons d D ih=>simp only[as8,iw,ih]
theorem cJ.grow(h:cJ C β H M w):cJ C β H (M++[none]) w :=
 have e:∀{k:Nat} {e:cz},(M++[none])[k]?=some (some e)->M[k]?=some (some e):=λ{k e} hk=>by
  rcases getElem?_snoc hk with⟨_,h'⟩ | ⟨_,h'⟩
  ·exact h'
  ·cases h'
 ⟨h.os,h.tape,h.output,h.size,h.frame,h.ext,h.new,h.inv,λk e' hk=>h.dt k e' (e hk),λk e' d hk=>h.own k e' d (e hk),λk k' e1 e2 d d' hk a7=>h.inj k k' e1 e2 d d' (e hk) (e a7),
  λk hk=>h.fresh k (by simp at hk;omega),h.im,h.fT⟩
theorem Bl{n:Nat}{fr:List (Nat × SV)}(hF:iM β H n fr a):∀(D:List eK),(∀d∈D,∃v,a.tmps[d.t]?=some v∧Den β H (.ptr d.k 0 0) v)->iM β H n (pj D fr) a
 | [],_=>hF
 | d::D,h=>by
  have ih:=Bl hF D λe he=>h e (by simp[he]);refine⟨ih.1,ih.2.1,λt y hg=>?_⟩;simp only[pj,get]at hg;split at hg
  ·rename_i e;subst e;simp only[ass]at hg;subst hg;exact h d (by simp)
  ·exact ih.2.2 t y hg
theorem yA{R:bf}(np:∀c st,¬R (.panic c) st):∀(pl:Pz) (D:List eK) (st:St) {Q QJ:bf},(∀e st,Q e st->R e st)->(∀e st,QJ e st->R e st)->wo P C ops D pl st Q QJ->ZJ P C ops pl D st R
 | .d i r,D,st,Q,QJ,hQ,hJ,h=>λaB L hL hD m x β H a w hm hZ=>by
  simp only[wo]at h;split at h
  ·rename_i t T ty p af ho;split at h
   ·rename_i ti a8;obtain⟨ba,h⟩:=h;simp only[sE,ho,atl,atz]at hL;obtain⟨h1,h2,h3⟩:=hL;have bw:∀d∈D,d.i≠i:=λd hd e=>by
     have:(wX.mf D).any (λd=>d.1==i)=true:=by simp only[wX.mf,atD,atB];exact⟨(d.i,d.t),⟨d,hd,rfl⟩,by simp[e]⟩
     rw[this]at h1;cases h1
    have aQ:∀d∈D,d.k<st.M.length:=λd hd=>by
     have:=hD.M d hd;rcases Nat.lt_or_ge d.k st.M.length with h' | h'
     ·exact h'
     ·rw[asu h']at this;cases this
    have bb:∀d∈D,d.t≠t:=λd hd e=>by
     have:(wX.mf D).any (λd=>d.2==t)=true:=by simp only[wX.mf,atD,atB];exact⟨(d.i,d.t),⟨d,hd,rfl⟩,by simp[e]⟩
     rw[this]at h2;cases h2
    have bG:wX P ops st.n (del st.fr t) (st.M++[none]) (D++[⟨i,t,st.M.length,ti⟩]):=by
     refine⟨λd hd=>?_,?_,?_,λd hd=>?_,λd hd=>?_,?_,λd hd=>?_⟩
     ·rcases ath.1 hd with hd | hd
      ·exact hD.o d hd
      ·simp only[atg]at hd;subst hd;exact⟨T,ty,p,af,ho,a8⟩
     ·rw[atE,atF];exact⟨hD.ni,by simp,λa ha b hb=>by obtain⟨d,hd,rfl⟩:=atB.1 ha;simp only[asF,atG,atg]at hb;subst hb;exact bw d hd⟩
     ·rw[atE,atF];exact⟨hD.nk,by simp,λa ha b hb=>by obtain⟨d,hd,rfl⟩:=atB.1 ha;simp only[asF,atG,atg]at hb;subst hb;have:=aQ d hd;omega⟩
     ·rcases ath.1 hd with hd | hd
      ·rw[List.getElem?_append_left (aQ d hd)];exact hD.M d hd
      ·simp only[atg]at hd;subst hd;simp
     ·rcases ath.1 hd with hd | hd
      ·exact hD.t d hd
      ·simp only[atg]at hd;subst hd;exact ba
     ·rw[atE,atF];exact⟨hD.nt,by simp,λa ha b hb=>by obtain⟨d,hd,rfl⟩:=atB.1 ha;simp only[asF,atG,atg]at hb;subst hb;exact bb d hd⟩
     ·rcases ath.1 hd with hd | hd
      ·exact nJ (.inl (hD.fr d hd))
      ·simp only[atg]at hd;subst hd;exact nJ (.inr rfl)
    obtain⟨y,hy⟩:∃y:Nat->Bool,y=λj=>x j&&!(j==i):=⟨_,rfl⟩;have aV:∀d∈D,y d.i=x d.i:=λd hd=>by simp[hy,bw d hd]
    have a3:y i=false:=by simp[hy]
    have hb:eZ y (D++[⟨i,t,st.M.length,ti⟩]) (st.M++[none])=eZ x D st.M++[none]:=by rw[G9 a3,Kj aQ,EY aV]
    have bH:ZS C st.n (del st.fr t) (st.M++[none]) (D++[⟨i,t,st.M.length,ti⟩]) y β H a w:=by
     refine⟨hZ.F.sub λt' z hg=>(lF hg).2,by rw[hb];exact hZ.W.grow,λd hd hx=>?_,λd hd hx=>?_⟩
     ·rcases ath.1 hd with hd | hd
      ·exact hZ.S d hd (by rw[<-aV d hd];exact hx)
      ·simp only[atg]at hd;subst hd;rw[a3]at hx;cases hx
     ·rcases ath.1 hd with hd | hd
      ·exact hZ.N d hd (by rw[<-aV d hd];exact hx)
      ·simp only[atg]at hd;subst hd;exact hZ.W.fresh _ (by rw[vj];exact Nat.le_refl _)
    have bc:kQ y (D++[⟨i,t,st.M.length,ti⟩])=m+1:=by
     simp only[kQ,List.filter_append,List.length_append];have e1:(D.filter λd=>!y d.i)=D.filter λd=>!x d.i:=atC λd hd=>by rw[aV d hd]
     rw[e1];simp only[kQ]at hm;simp[hm,a3]
    have hr:=yA np r _ _ hQ hJ h aB L (by simpa[wX.mf]using h3) bG (m+1) y β H a w bc bH;have ao:iw y ((D++[(⟨i,t,st.M.length,ti⟩:eK)]).map (·.i)) L=iw x (D.map (·.i)) L:=by rw[atE,asF,atG,I9 a3];exact yP (λj hj=>by obtain⟨d,hd,rfl⟩:=atB.1 hj;exact aV d hd) L
    rw[ao]at hr;have e:(Pz.d i r).len+m=r.len+(m+1):=by simp only[Pz.len];omega
    rw[e];exact hr
   ·exact h.elim
  ·exact h.elim
 | .b r,D,st,Q,QJ,hQ,hJ,h=>λaB L hL hD=>by
  simp only[wo]at h;simp only[sE,atl]at hL;refine EM hD λx β H a w hZ ap=>?_;obtain⟨q,ak,aN⟩:=mJ x _ _ _ hL.1;have aq:(wX.mf D).map (·.1)=D.map (·.i):=by simp[wX.mf]
  rw[aq]at ak aN hL;by_cases ag:∀d∈D,x d.i=true
  ·rw[Nj ag];have ao:iw x (D.map (·.i)) L=iw (λ_=>true) (D.map (·.i)) L:=yP (λj hj=>by obtain⟨d,hd,rfl⟩:=atB.1 hj;exact ag d hd) L;rw[ao];have hW:=hZ.W;rw[Ke ag]at hW;exact eh np r _ hQ hJ h aB _ hL.2 β H a w (Bl hZ.F D λd hd=>hZ.S d hd (ag d hd)) hW
  ·obtain⟨d0,a4,bx⟩:∃d∈D,x d.i=false:=by
    refine Classical.byContradiction λbe=>ag λd hd=>?_;cases hx:x d.i with
    | true=>rfl
    | false=>exact absurd ⟨d,hd,hx⟩ be
   have aj:q.isEmpty=false:=by
    cases q with
    | nil=>have:=(aN d0.i).2 (.inr ⟨atB.2 ⟨d0,a4,rfl⟩,bx⟩);exact absurd this (by simp)
    | cons _ _=>rfl
   rw[aj]at ak;simp only[Bool.false_or,atl,atz,atu,atq]at ak;have hc:=yp a4 hD.ni bx;have e:(Pz.b r).len+kQ x D=((Pz.b r).len+kQ x D - 1)+1:=by omega
   rw[e];refine⟨λh0=>(by rw[h0]at ak;simp at ak),λj hj=>?_⟩;rcases(aN j).1 (ak.2 j hj)with h' | ⟨h',aw⟩
   ·cases h'
   ·obtain⟨d,hd,rfl⟩:=atB.1 h';exact ap d hd aw
 | .p i r,D,st,Q,QJ,hQ,hJ,h=>λaB L hL hD=>by
  simp only[wo]at h;split at h
  ·exact λ_ _ _ _ _ _ _ _=>h.elim
  ·rename_i o ho;simp only[sE,atl,atz]at hL;obtain⟨aC, -,ag,hr⟩:=hL;refine EM hD λx β H a w hZ ap=>?_;obtain⟨q,ak,aN⟩:=mJ x _ _ _ ag;have aq:(wX.mf D).map (·.1)=D.map (·.i):=by simp[wX.mf]
   rw[aq]at ak aN;simp only[atl,atu,atq,atv,beq_iff_eq]at ak;have e:(Pz.p i r).len+kQ x D=((Pz.p i r).len+kQ x D - 1)+1:=by simp only[Pz.len];omega
   rw[e];refine⟨λh0=>(by rw[h0]at ak;simp at ak),λj hj=>?_⟩;have done:j∈q->wpOp P ops (QQ C R) j (λa' w'=>GG H (Wb β w.heap.size ((Pz.p i r).Y j)) w w'∧r8 P ops (QQ C R) (λj w1 w2=>GG H (Wb β w.heap.size ((Pz.p i r).Y j)) w1 w2) ((Pz.p i r).len+kQ x D - 1) ((iw x (D.map (·.i)) L).setIfInBounds j true) a' w') a w:=λbh=>by
    rcases(aN j).1 bh with h' | ⟨h',aw⟩
    ·cases h'
    ·obtain⟨d,hd,rfl⟩:=atB.1 h';exact ap d hd aw
   rcases ak.2 j hj with rfl | bh
   ·have hlen:(Pz.p j r).len+kQ x D - 1=r.len+kQ x D:=by simp only[Pz.len];omega
    rw[hlen];unfold wpOp;simp only[ho];rcases K2 h hZ.F with⟨hw,fr,aE,ar,ah⟩ | ⟨hw,fr,aE,ar,be⟩
    ·rw[if_pos hw];left;unfold mR at ah;split at ah
     ·rename_i f args ts aY;split at ah
      ·rename_i xs bI;obtain⟨hf,bK,a5,ac,Φ,aA,aZ,hk⟩:=ah;have bi:(execOp a.eval o).run P w=.ok (.enter f (args.map a.eval)) w:=by
        obtain⟨dst,op,type,pos,after,guard⟩:=o;simp only at aY;subst aY;simp only[execOp,resolve,Act.eval,Deferred.ofValue,Sem.run_bind,Sem.run_pure,Result.andThen_ok,invoke];simpa using hf (args.map a.eval) w
       simp only[Oper.wp,bi,Oper.upon];have a0:=mz ar _ _ bI;have bz:=hZ.wok hD;have aL:=kO bz aA ⟨λk e _ hk=>by rw[a5]at hk;cases hk⟩ a0;have aH:=aZ H w _ bz.OO aL;rw[show(args.toList.map a.eval).toArray=args.map a.eval from by apply Array.ext';simp]at aH;refine Calls.mono aH ?_;rintro e' w' ⟨H',v,z,rfl,g1,g2,g3,g4,g5,g6⟩;have bL:iM β H' st.n (eI o.dst (some z) fr) (a.put o.dst v):=(ar.mono (λ_ _ h=>h) g3).eI bK (g1.up (λk d hd=>by simp[rz]at hd) (λ_ _ h=>h));have ab:=zo ho aC;have bj:ZS C st.n (eI o.dst (some z) fr) st.M D x β H' (a.put o.dst v) w':=by
        refine⟨bL,hZ.W.after g6 g3 g4 g5,λd hd hx=>?_,hZ.N⟩;obtain⟨v',aK,ad⟩:=hZ.S d hd hx;refine⟨v',?_,ad.up (λ_ _ h=>h) g3⟩;cases a4:o.dst with
        | none=>exact aK
        | some s=>simp only[Act.put];rw[ast (ab d hd s a4)];exact aK
       have am:=yA np r D ⟨st.n,eI o.dst (some z) fr,st.M⟩ hJ hJ (hk z g2) aB _ hr (hD.frame λd hd=>sN (aE _ (hD.fr d hd)) (ab d hd)) _ x β H' _ w' rfl bj;rw[p4]at am;refine⟨⟨⟨g6.size,λb hb _=>g6.block b hb⟩,sG.mono (H':=H') g5.1 g3⟩,?_⟩;refine nq _ _ _ _ (λj' w1 w2 _ bA=>⟨bA.1.mono λb _ hb=>?_,bA.2.mono g3⟩) am;obtain⟨b1,b2⟩:=hb;exact⟨b1,b2.imp id (Or.imp (λh=>Nat.le_trans g6.size h) id)⟩
      ·exact ah.elim
     ·exact ah.elim
    ·rw[if_neg (by simp[hw])];have ab:=zo ho aC;have bj:=hZ.put ar ab;have am:=yA np r D ⟨st.n,fr,st.M⟩ hQ hJ be aB _ hr (hD.frame λd hd=>aE _ (hD.fr d hd) (ab d hd)) _ x β H _ w rfl bj;rw[p4]at am;exact⟨⟨RS.Ca w,hZ.W.inv⟩,am⟩
   ·exact done bh
 | .q i ks r,D,st,Q,QJ,hQ,hJ,h=>λaB L hL hD m x β H a w hm hZ=>by
  simp only[sE,atl,atz]at hL;obtain⟨aC, -,ag,hL⟩:=hL;obtain⟨qq,hq, -⟩:=mJ x _ _ _ ag;have aq:(wX.mf D).map (·.1)=D.map (·.i):=by simp[wX.mf]
  rw[aq]at hq;have hF:=hZ.F;have hW:=hZ.wok hD;simp only[wo]at h;split at h
  ·exact h.elim
  ·rename_i o ho;have ab:=zo ho aC;simp only[Uu,ho,atl]at hq;obtain⟨h1,h2,h3,h4,h5⟩:=hq;simp only[atu,atl,atz]at h4
   let Dd:Nat->Bool:=λj=>(Ow ops i).contains j
   let U:Nat->Prop:=λb=>∃j,j<ops.size∧j≠i∧Dd j=false∧(iw x (D.map (·.i)) L).getD j true=false∧Wb β w.heap.size (r.Y j) b
   have bM:(∃t x,o.op=.load t x)->∀b,U b->b<w.heap.size->sj∈ks∨∃k∈ks,∃d,β k=some (some d)∧d.b=b:=by
    rintro⟨t',x',aY⟩ b ⟨j,bk,bl,bm,bn,bR,a6⟩ hb;obtain⟨dst,op,type,pos,after,guard⟩:=o;simp only at aY;subst aY;simp only[atu,List.mem_range,atv,beq_iff_eq]at h5;have a5:∀k∈r.Y j,k∈ks:=λk hk=>by
     rcases h5 j bk with h | h | h | h
     ·exact absurd h bl
     ·rw[bn]at h;cases h
     ·rw[show(Ow ops i).contains j=false from bm]at h;cases h
     ·have:=h k hk;simpa using this
    rcases a6 with a6 | a6 | ⟨k,hk,d,hd,bN⟩
    ·exact .inl (a5 _ a6)
    ·omega
    ·exact .inr ⟨k,a5 k hk,d,hd,bN⟩
   have core:∀v,YieldsIf P ops (λw'=>RS U w w'∧sG H w') o v a->(∃fr,(∀d∈D,get fr d.t=none)∧iM β H st.n fr (a.put o.dst v)∧wo P C ops D r ⟨st.n,fr,st.M⟩ Q QJ)->r8 P ops (QQ C R) (λj w1 w2=>GG H (Wb β w.heap.size ((Pz.q i ks r).Y j)) w1 w2) ((Pz.q i ks r).len+m) (iw x (D.map (·.i)) L) a w:=by
    rintro v hy ⟨fr,aE,ar,hv⟩;have e:(Pz.q i ks r).len+m=(r.len+m)+1:=by simp only[Pz.len];omega
    rw[e];refine uU (D:=Dd) (S:=λw'=>RS U w w'∧sG H w') ho (Region.noSelect_spec aB) (λc a' w' ⟨st',hp,_⟩=>absurd hp (np c st')) (λj oj hj bO=>?_) (λw1 hs=>⟨RS.Ca w1,hs.2⟩) _ _ a w ?_ (λj hj=>?_) (Region.free_spec ho h2) (by simpa using h3) hy ⟨RS.Ca w,hW.inv⟩ ?_
    ·have:=h4 j (by simpa[Dd]using hj);rw[bO]at this;simp only[Array.any_eq_true',atl,atv,beq_iff_eq]at this;exact this.2
    ·intro j w1 w2 bk bl bm bn hs hg;exact⟨hs.1.trans hg.1 λb _ hb=>⟨j,bk,bl,bm,bn,hb⟩,hg.2⟩
    ·exact(h4 j (by simpa[Dd]using hj)).1
    ·have am:=yA np r D ⟨st.n,fr,st.M⟩ hQ hJ hv aB _ hL (hD.frame aE) m x β H _ w hm (hZ.put ar ab);rw[p4]at am;exact am
   rcases K2 h hF with⟨hw,fr,aE,ar,hi,ah⟩ | ⟨hw,fr,aE,ar,bo⟩
   ·obtain⟨c,y,hy,hc,hd,bQ⟩:=rV h1 hi ah;obtain⟨v,a9,aR⟩:=Gx (st:=⟨st.n,fr,st.M⟩) hW ar hy hc hi bM;exact core v (.inl ⟨hw,a9⟩) ⟨_,λd ai=>sN (aE _ (hD.fr d ai)) (ab d ai),ar.eI hd aR,bQ⟩
   ·exact core undef (.inr ⟨hw,rfl⟩) ⟨fr,λd ai=>aE _ (hD.fr d ai) (ab d ai),ar,bo⟩
theorem aa.jZ{id:Nat}(pl:Pz)(hm:P.follows .mixedOrders=true)(hp:(awQ ops&&(sE ops [] (Array.replicate ops.size false) pl&&decide (pl.len<=ops.size)))=true)(np:∀c st,¬QJ (.panic c) st)
  (h:wo P C ops [] pl st QJ QJ):aa P C (.region id ops true) st QJ:=by
 simp only[atl,decide_eq_true_eq]at hp;rintro a w ⟨β,H,hF,hW⟩;have hD:wX P ops st.n st.fr st.M []:=⟨by simp,by simp,by simp,by simp,by simp,by simp,by simp⟩;have hj:=yA np pl [] st (λ_ _ h=>h) (λ_ _ h=>h) h hp.1 _ hp.2.1 hD 0 (λ_=>false) β H a _ rfl ⟨hF,hW.drew,by simp,by simp⟩;exact wp_region_any hm (xe _ _ _ _ (Cg hp.2.2 hj))
end
/-! how simp runs it -/
def Tq(P:Program)(C:Ctx)(ops:Array Oper)(D:List eK)(r:Pz)(Q QJ:bf)(st:St):Prop:=wo P C ops D r st Q QJ
def njZ(P:Program)(C:Ctx)(ops:Array Oper)(D:List eK)(r:Pz)(QJ:bf)(st:St):Prop:=wo P C ops D r st QJ QJ
def KU(d:Option Tmp)(st:St)(next:St->Prop)(z:SV):Prop:=next ⟨st.n,eI d (some z) st.fr,st.M⟩
def F0(P:Program)(f:FuncId)(xs:Option (List SV))(d:Option Tmp)(st:St)(next:St->Prop):Prop:=match xs with
 | some xs=>av P f∧zO d st.n∧DN P f xs st.M (KU d st next)
 | none=>False
section
variable {P:Program} {C:Ctx} {st:St} {Q QJ:bf} {l:List Oper} {D:List eK} {d:Option Tmp} {op:Op} {t:TypeId} {p:String} {af:Array Edge} {g:Option (Nat × Bool)} {o:Oper} {r:Pz} {i:Nat} {ks:List Nat} {next:St->Prop}
@[simp] theorem afk:Tq P C l.toArray D r Q QJ st=wo P C l.toArray D r st Q QJ:=rfl
@[simp] theorem aey:njZ P C l.toArray D r QJ st=wo P C l.toArray D r st QJ QJ:=rfl
@[simp] theorem ajN{z:SV}:KU d st next z=next ⟨st.n,eI d (some z) st.fr,st.M⟩:=rfl
@[simp] theorem Rz{f:FuncId}{xs:List SV}:F0 P f (some xs) d st next=(av P f∧zO d st.n∧DN P f xs st.M (KU d st next)):=rfl
def zQ(P:Program)(C:Ctx)(l:List Oper)(D:List eK)(ks:List Nat)(o:Oper)(r:Pz)(Q QJ:bf)(st:St):Prop:=G0 ks st o.op∧cH P C none o st (Tq P C l.toArray D r Q QJ) noJ
def zP(P:Program)(C:Ctx)(l:List Oper)(D:List eK)(o:Oper)(r:Pz)(QJ:bf)(st:St):Prop:=mR P o st (njZ P C l.toArray D r QJ)
@[simp] theorem aif:zQ P C l D ks o r Q QJ st=(G0 ks st o.op∧cH P C none o st (Tq P C l.toArray D r Q QJ) noJ):=rfl
@[simp] theorem aiy:zP P C l D o r QJ st=mR P o st (njZ P C l.toArray D r QJ):=rfl
@[simp ↓] theorem NS{f:FuncId}{os:List Operand}{ts:Array TypeId}:mR P ⟨d,.call ⟨.value (.func f),os.toArray,ts⟩,t,p,af,g⟩ st next=F0 P f (zE st.fr os) d st next:=by simp only[mR,F0];cases zE st.fr os<;>rfl
def oQ(P:Program)(C:Ctx)(l:List Oper)(D:List eK)(ks:List Nat)(o:Option Oper)(r:Pz)(st:St)(Q QJ:bf):Prop:=match o with
 | some o=>gd l.toArray o st (zQ P C l D ks o r Q QJ) (Tq P C l.toArray D r Q QJ)
 | none=>False
def oP(P:Program)(C:Ctx)(l:List Oper)(D:List eK)(o:Option Oper)(r:Pz)(st:St)(Q QJ:bf):Prop:=match o with
 | some o=>gd l.toArray o st (zP P C l D o r QJ) (Tq P C l.toArray D r Q QJ)
 | none=>False
def oT(P:Program)(C:Ctx)(l:List Oper)(D:List eK)(i t:Nat)(ti:Option TI)(r:Pz)(st:St)(Q QJ:bf):Prop:=match ti with
 | some ti=>t<st.n∧wo P C l.toArray (D++[⟨i,t,st.M.length,ti⟩]) r ⟨st.n,del st.fr t,st.M++[none]⟩ Q QJ
 | none=>False
def oD(P:Program)(C:Ctx)(l:List Oper)(D:List eK)(i:Nat)(o:Option Oper)(r:Pz)(st:St)(Q QJ:bf):Prop:=match o with
 | some ⟨some t,.alloc T,_,_,_,none⟩=>oT P C l D i t (an P T) r st Q QJ
 | _=>False
@[simp] theorem afX:oQ P C l D ks (some o) r st Q QJ=gd l.toArray o st (zQ P C l D ks o r Q QJ) (Tq P C l.toArray D r Q QJ):=rfl
@[simp] theorem aeg:oP P C l D (some o) r st Q QJ=gd l.toArray o st (zP P C l D o r QJ) (Tq P C l.toArray D r Q QJ):=rfl
@[simp] theorem aeV{t:Nat}{ti:TI}:oT P C l D i t (some ti) r st Q QJ=(t<st.n∧wo P C l.toArray (D++[⟨i,t,st.M.length,ti⟩]) r ⟨st.n,del st.fr t,st.M++[none]⟩ Q QJ):=rfl
@[simp] theorem ag1{t':Nat}{T:TypeId}:oD P C l D i (some ⟨some t',.alloc T,t,p,af,none⟩) r st Q QJ=oT P C l D i t' (an P T) r st Q QJ:=rfl
@[simp] theorem adb:Pz.qs [] r=r:=rfl
@[simp] theorem Yc{is:List Nat}:Pz.qs (i::is) r=.q i [] (Pz.qs is r):=rfl
@[simp ↓] theorem amN{r:Pl}:wo P C l.toArray D (.b r) st Q QJ=fu P C l.toArray r ⟨st.n,pj D st.fr,vY D st.M⟩ Q QJ:=rfl
@[simp ↓] theorem aoL:wo P C l.toArray D (.q i ks r) st Q QJ=oQ P C l D ks (mH l i) r st Q QJ:=by simp only[wo,k9];cases mH l i<;>rfl
@[simp ↓] theorem ann:wo P C l.toArray D (.p i r) st Q QJ=oP P C l D (mH l i) r st Q QJ:=by simp only[wo,k9];cases mH l i<;>rfl
@[simp ↓] theorem ak7:wo P C l.toArray D (.d i r) st Q QJ=oD P C l D i (mH l i) r st Q QJ:=by simp only[wo,k9,oD,oT]
@[simp] theorem SB{fr:List (Nat × SV)}:pj [] fr=fr:=rfl
@[simp] theorem Qo{d:eK}{fr:List (Nat × SV)}:pj (d::D) fr=(d.t,.ptr d.k 0 0)::pj D fr:=rfl
@[simp] theorem VG{M:aD}:vY [] M=M:=rfl
@[simp] theorem Ti{d:eK}{M:aD}:vY (d::D) M=aX (vY D M) d.k (MY d):=by rw[dI];rfl
@[simp] theorem adV{i t k:Nat}{ti:TI}:MY ⟨i,t,k,ti⟩=some ⟨ti.size,[ti.cR],false⟩:=rfl
end
theorem ZQ{P:Program}{f:FuncId}{args ac:List SV}{y:SV}{M:aD}{k:SV->Prop}(h:aG P f ac y)(a1:SV.uB args=[])(hs:cK M args ac)(hk:k y):DN P f args M k :=
 ⟨a1,ac,_,hs,h,λx hx=>by rw[hx];exact hk⟩
mutual
theorem j8(M:aD):∀x:SV,x.pure=true->Sub M x x
 | .val v,_=>by simp only[Sub]
 | .ptr _ _ _,h=>by simp[SV.pure]at h
 | .view _ _ _,h=>by simp[SV.pure]at h
 | .mp _,h=>by simp[SV.pure]at h
 | .ro _,_=>rfl
 | .dc _ _,_=>rfl
 | .iJ _ _,_=>rfl
 | .any,_=>rfl
 | .jw _ l r,h=>by simp only[SV.pure,atl]at h;simp only[Sub];exact⟨trivial,jH M l h.1,jH M r h.2⟩
 | .agg l,h=>by simp only[Sub];exact jH M l (by simpa[SV.pure]using h)
 | .bP l,h=>by simp only[Sub];exact jH M l (by simpa[SV.pure]using h)
 | .iT _ x,h=>by simp only[Sub];exact⟨trivial,j8 M x (by simpa[SV.pure]using h)⟩
theorem jH(M:aD):∀l:List SV,SV.bJ l=true->cK M l l
 | [],_=>by simp only[cK]
 | x::l,h=>by simp only[SV.bJ,atl]at h;simp only[cK];exact⟨j8 M x h.1,jH M l h.2⟩
end
mutual
theorem HU:∀x:SV,x.pure=true->x.ks=[]
 | .val _,_=>rfl
 | .ptr _ _ _,h=>by simp[SV.pure]at h
 | .view _ _ _,h=>by simp[SV.pure]at h
 | .mp _,h=>by simp[SV.pure]at h
 | .ro _,_=>rfl
 | .dc _ _,_=>rfl
 | .iJ _ _,_=>rfl
 | .any,_=>rfl
 | .jw _ l r,h=>by simp only[SV.pure,atl]at h;simp[SV.ks,ld l h.1,ld r h.2]
 | .agg l,h=>by simp only[SV.ks];exact ld l (by simpa[SV.pure]using h)
 | .bP l,h=>by simp only[SV.ks];exact ld l (by simpa[SV.pure]using h)
 | .iT _ x,h=>by simp only[SV.ks];exact HU x (by simpa[SV.pure]using h)
theorem ld:∀l:List SV,SV.bJ l=true->SV.uB l=[]
 | [],_=>rfl
 | x::l,h=>by simp only[SV.bJ,atl]at h;simp[SV.uB,HU x h.1,ld l h.2]
end
theorem ae{P:Program}{C:Ctx}{f:FuncId}{args:List SV}{y:SV}{M:aD}{W:Option (List Nat)}{k:aD->List Nat->SV->Prop}(h:aG P f args y)(hp:SV.bJ args=true)(hk:k M [] y):dN P C f args M W k :=
 bg h (jH M args hp) (by rw[ld args hp];exact hk)
theorem asl{P:Program}{C:Ctx}{f:FuncId}{a:List SV}{y:SV}{M:aD}{W:Option (List Nat)}{k:aD->List Nat->SV->Prop}(h:aG P f a y)(g:k M [] y)(p:SV.bJ a=true:=by simp):dN P C f a M W k:=ae h p g
theorem fG{P:Program}{f:FuncId}{args:List SV}{y:SV}{M:aD}{k:SV->Prop}(h:aG P f args y)(hp:SV.bJ args=true)(hk:k y):DN P f args M k :=
 ZQ h (ld args hp) (jH M args hp) hk
end Go.Sv

