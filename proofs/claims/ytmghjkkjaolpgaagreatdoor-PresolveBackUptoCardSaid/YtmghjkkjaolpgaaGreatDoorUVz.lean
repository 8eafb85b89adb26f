/- A text of the prover's own. -/
import Derived.Test.YtmghjkkjaolpgaaGreatDoorUVy
open Array renaming setIfInBounds_comm→am5,getElem?_setIfInBounds_ne→al1
open Bool renaming or_eq_true→am2,and_eq_true→amS,not_eq_true'→am6
open List renaming mem_cons→amM,mem_append→amO,getElem?_set_ne→amw,map_cons→amc,nodup_cons→am7,mem_map→am8,getElem?_eq_none→al2,filter_cons→am4,filter_congr→am9,all_eq_true→am1,cons_append→amF,any_eq_true→ana,mem_singleton→amN,map_append→anb,nodup_append→anc,map_nil→ane,contains_iff_mem→amX
open Option.some renaming injEq→al0
namespace Go.Sv
open Go Go.RowKit
structure dc where
 i:Nat
 t:Nat
 k:Nat
 ti:TI
inductive Pz
 | q (i:Nat) (ks:List Nat) (r:Pz)
 | p (i:Nat) (r:Pz)
 | d (i:Nat) (r:Pz)
 | b (r:Pl)
def Pz.qs:List Nat→Pz→Pz
 | [],r=>r
 | i::is,r=>.q i [] (Pz.qs is r)
def Pz.Y:Pz→Nat→List Nat
 | .q _ _ r,x=>r.Y x
 | .p _ r,x=>r.Y x
 | .d _ r,x=>r.Y x
 | .b r,x=>r.Y x
def Pz.len:Pz→Nat
 | .q _ _ r=>r.len+1
 | .p _ r=>r.len+1
 | .d _ r=>r.len+1
 | .b r=>r.len
def fC(x:Nat→Bool):List Nat→Array Bool→Array Bool
 | [],L=>L
 | i::D,L=>if x i=true then(fC x D L).setIfInBounds i true else fC x D L
def De:List Nat→List Nat→Array Bool→(Array Bool→List Nat→Bool)→Bool
 | [],p,L,f=>f L p
 | i::D,p,L,f=>De D (p++[i]) L f&&De D p (L.setIfInBounds i true) f
def Ea(ops:Array Oper)(i:Nat)(D:List (Nat × Nat)):Bool:=match ops[i]? with
 | some o=>match o.dst with
  | some t=>D.all fun d=>d.2 != t
  | none=>true
 | none=>false
def kV(ops:Array Oper):List (Nat × Nat)→Array Bool→Pz→Bool
 | D,L,.d i r=>(match ops[i]? with
  | some ⟨some t,.alloc _,_,_,_,none⟩=>!(D.any fun d=>d.1==i)&&(!(D.any fun d=>d.2==t)&&kV ops (D++[(i,t)]) L r)
  | _=>false)
 | D,L,.q i ks r=>Ea ops i D&&(!(D.any fun d=>d.1==i)&&(De (D.map (·.1)) [] L (fun L' _=>Ve ops L' i ks r.Y)&&kV ops D (L.setIfInBounds i true) r))
 | D,L,.p i r=>Ea ops i D&&(!(D.any fun d=>d.1==i)&&(De (D.map (·.1)) [] L (fun L' pend=>(Region.ready .any ops L').contains i&&(Region.ready .any ops L').all fun j=>j==i||pend.contains j)&&kV ops D (L.setIfInBounds i true) r))
 | D,L,.b r=>De (D.map (·.1)) [] L (fun L' pend=>pend.isEmpty||(!(Region.ready .any ops L').isEmpty&&(Region.ready .any ops L').all fun j=>pend.contains j))&&fO ops (fC (fun _=>true) (D.map (·.1)) L) r
def qH(P:Program)(f:FuncId)(xs:List SV)(M:aJ)(K:SV→Prop):Prop:=SV.qk xs=[]∧∃args' Φ,cA M xs args'∧nS P f args' Φ∧∀x,Φ x→K x
def lu(P:Program)(o:Oper)(st:St)(K:St→Prop):Prop:=match o.op with
 | .call ⟨.value (.func f),args,_⟩=>match rQ st.fr args.toList with
  | some xs=>al P f∧sS o.dst st.n∧qH P f xs st.M fun x=>K ⟨st.n,dd o.dst (some x) st.fr,st.M⟩
  | none=>False
 | _=>False
def I3(d:dc):Option cx:=some ⟨d.ti.size,[d.ti.cK],false⟩
def ld:List dc→List (Nat × SV)→List (Nat × SV)
 | [],fr=>fr
 | d::D,fr=>(d.t,.ptr d.k 0 0)::ld D fr
def iW:List dc→aJ→aJ
 | [],M=>M
 | d::D,M=>(iW D M).set d.k (I3 d)
def tH(P:Program)(C:Ctx)(ops:Array Oper):List dc→Pz→St→aV→aV→Prop
 | D,.d i r,st,Q,QJ=>(match ops[i]? with
  | some ⟨some t,.alloc T,_,_,_,none⟩=>match az P T with
   | some ti=>t<st.n∧tH P C ops (D++[⟨i,t,st.M.length,ti⟩]) r ⟨st.n,del st.fr t,st.M++[none]⟩ Q QJ
   | none=>False
  | _=>False)
 | D,.q i ks r,st,Q,QJ=>match ops[i]? with
  | none=>False
  | some o=>gd ops o st (fun st'=>w8 ks st' o.op∧cE P C none o st' (fun st''=>tH P C ops D r st'' Q QJ) (fun _=>False)) (fun st'=>tH P C ops D r st' Q QJ)
 | D,.p i r,st,Q,QJ=>match ops[i]? with
  | none=>False
  | some o=>gd ops o st (fun st'=>lu P o st' (fun st''=>tH P C ops D r st'' QJ QJ)) (fun st'=>tH P C ops D r st' Q QJ)
 | D,.b r,st,Q,QJ=>eN P C ops r ⟨st.n,ld D st.fr,iW D st.M⟩ Q QJ
section
variable {P:Program} {C:Ctx} {ops:Array Oper} {L:Array Bool} {Q QJ:aV} {st:St} {β:bO} {H:Hp} {a:Act} {w:World} {M:aJ}
theorem ik(x:Nat→Bool)(D:List Nat)(L:Array Bool)(i:Nat):fC x D (L.setIfInBounds i true)=(fC x D L).setIfInBounds i true:=by
 induction D with
 | nil=>rfl
 | cons j D ih =>
  simp only[fC];rw[ih];split
  ·by_cases e:i=j
   ·subst e;rfl
   ·rw[am5 _ _ e]
  ·rfl
def gQ(x:Nat→Bool)(j:Nat):Nat→Bool:=fun i=>x i||i==j
theorem FD(x:Nat→Bool)(j:Nat)(D:List Nat)(L:Array Bool):fC (gQ x j) D L=if j∈D then(fC x D L).setIfInBounds j true else fC x D L:=by
 induction D with
 | nil=>rfl
 | cons i D ih =>
  simp only[fC,gQ,ih];by_cases e:i=j
  ·subst e;simp only[beq_self_eq_true,Bool.or_true,if_true,amM,true_or];split<;>split<;>simp
  ·have e':¬j=i:=fun h=>e h.symm;simp only[beq_iff_eq,e,e',am2,or_false,amM,false_or];split
   ·split
    ·rw[am5 _ _ e']
    ·rfl
   ·rfl
theorem im{f:Array Bool→List Nat→Bool}(x:Nat→Bool):∀(D p:List Nat) (L:Array Bool),De D p L f=true →
  ∃q,f (fC x D L) q=true∧∀j,j∈q↔j∈p∨(j∈D∧x j=false)
 | [],p,L,h=>⟨p,h,fun j=>by simp⟩
 | i::D,p,L,h=>by
  simp only[De,amS]at h;simp only[fC];by_cases hx:x i=true
  ·obtain⟨q,h1,h2⟩:=im x D p _ h.2;rw[ik]at h1;rw[if_pos hx];refine⟨q,h1,fun j=>?_⟩;rw[h2 j];simp only[amM];constructor
   ·rintro(h | h)
    ·exact .inl h
    ·exact .inr ⟨.inr h.1,h.2⟩
   ·rintro(h | ⟨h | h,h'⟩)
    ·exact .inl h
    ·subst h;rw[hx]at h';cases h'
    ·exact .inr ⟨h,h'⟩
  ·obtain⟨q,h1,h2⟩:=im x D _ L h.1;rw[if_neg hx];refine⟨q,h1,fun j=>?_⟩;rw[h2 j];simp only[amO,amM,List.not_mem_nil,or_false];have hx':x i=false:=by simpa using hx
   constructor
   ·rintro((h | h) | h)
    ·exact .inl h
    ·subst h;exact .inr ⟨.inl rfl,hx'⟩
    ·exact .inr ⟨.inr h.1,h.2⟩
   ·rintro(h | ⟨h | h,h'⟩)
    ·exact .inl (.inl h)
    ·exact .inl (.inr h)
    ·exact .inr ⟨h,h'⟩
/-! the table, with those that have come -/
def dJ(x:Nat→Bool):List dc→aJ→aJ
 | [],M=>M
 | d::D,M=>if x d.i=true then(dJ x D M).set d.k (I3 d) else dJ x D M
theorem j0(x:Nat→Bool)(D:List dc)(M:aJ):(dJ x D M).length=M.length:=by
 induction D with
 | nil=>rfl
 | cons d D ih=>simp only[dJ];split<;>simp[ih]
theorem tq{x:Nat→Bool}{D:List dc}{M:aJ}{k:Nat}(h:∀d∈D,x d.i=true→d.k≠k):(dJ x D M)[k]?=M[k]?:=by
 induction D with
 | nil=>rfl
 | cons d D ih =>
  have ih:=ih fun e he=>h e (by simp[he]);simp only[dJ];split
  ·rename_i hx;rw[amw (h d (by simp) hx)];exact ih
  ·exact ih
theorem xG{x:Nat→Bool}{D:List dc}{M:aJ}(h:∀d∈D,M[d.k]?=some none){k:Nat}{e:cx}(hk:M[k]?=some (some e)):(dJ x D M)[k]?=some (some e):=by
 rw[tq fun d hd _ e'=>?_]
 ·exact hk
 ·have:=h d hd;rw[e',hk]at this;cases this
theorem CN{x:Nat→Bool}{D:List dc}{M:aJ}{d:dc}(hd:d∈D)(hn:(D.map (·.i)).Nodup)(hk:(D.map (·.k)).Nodup):dJ (gQ x d.i) D M=(dJ x D M).set d.k (I3 d):=by
 induction D with
 | nil=>cases hd
 | cons c D ih =>
  simp only[amc,am7]at hn hk;simp only[dJ];rcases amM.1 hd with rfl | hd
  ·have hnot:∀e∈D,e.i≠d.i:=fun e he h=>hn.1 (am8.2 ⟨e,he,h⟩);have hsame:dJ (gQ x d.i) D M=dJ x D M:=by
    clear ih hn hk
    induction D with
    | nil=>rfl
    | cons e D ih' =>
     simp only[dJ];rw[ih' (by simp) fun e' he'=>hnot e' (by simp[he'])];have:gQ x d.i e.i=x e.i:=by simp[gQ,hnot e (by simp)]
     rw[this]
   rw[hsame,if_pos (by simp[gQ])];split
   ·simp
   ·rfl
  ·have hne:c.i≠d.i:=fun h=>hn.1 (am8.2 ⟨d,hd,h.symm⟩);have hnk:c.k≠d.k:=fun h=>hk.1 (am8.2 ⟨d,hd,h.symm⟩);have:gQ x d.i c.i=x c.i:=by simp[gQ,hne]
   rw[this,ih hd hn.2 hk.2];split
   ·rw[List.set_comm _ _ hnk.symm]
   ·rfl
theorem cv.La(h:cv C β H M w){k:Nat}(hk0:M[k]?=some none)(hb0:β k=none){cs:Array Value}{T:TypeId}{s:Nat}{es:List SV}{vs:List Value}(hd:aU β H s es vs)(hl:vs.length≤cs.size)
  (hc:∀i,i<vs.length→cs[i]?=vs[i]?) :
  cv C (β.dT k (some ⟨w.heap.size,cs.size,s⟩)) H (M.set k (some ⟨s,es,false⟩)) (w.alloc (.cells cs T)):=by
 have up:∀j d,β j=some d→(β.dT k (some ⟨w.heap.size,cs.size,s⟩)) j=some d:=fun j d hj=>by
  simp only[bO.dT];rw[if_neg];exact hj;intro e;subst e;rw[hb0]at hj;cases hj
 have hkl:k<M.length:=by
  rcases Nat.lt_or_ge k M.length with h' | h'
  ·exact h'
  ·rw[al2 h']at hk0;cases hk0
 have cases':∀{j:Nat} {e:cx},(M.set k (some ⟨s,es,false⟩))[j]?=some (some e)→(j≠k∧M[j]?=some (some e))∨(j=k∧e=⟨s,es,false⟩):=fun{j e} hj=>by
  by_cases ej:j=k
  ·subst ej;rw[List.getElem?_set_self hkl]at hj;simp only[al0]at hj;exact .inr ⟨rfl,hj.symm⟩
  ·rw[amw (Ne.symm ej)]at hj;exact .inl ⟨ej,hj⟩
 exact{
  os:=h.os,tape:=h.tape,output:=h.output
  size:=by have:=h.size;simp;omega
  frame:=fun b hb hx=>by rw[heap_alloc_old (by have:=h.size;omega)];exact h.frame b hb hx
  ext:=h.ext,new:=h.new
  inv:=fun b cs' hb=>by obtain⟨T',z,h'⟩:=h.inv b cs' hb;exact⟨T',z,by rw[heap_alloc_old (gn h')];exact h'⟩
  da:=fun j e hj=>by
   rcases cases' hj with⟨hne,hj'⟩ | ⟨rfl,rfl⟩
   ·exact(h.da j e hj').up up (fun _ _ h=>h) (fun d hd'=>heap_alloc_old (h.lt hj' hd'))
   ·exact .inr (.inl ⟨_,cs,T,vs,by simp[bO.dT];rfl,rfl,heap_alloc_new,rfl,aU.mono (fun _ _ h=>h) _ _ _ (fun k d _=>up k d) hd,hl,hc,fun hf=>by cases hf⟩)
  own:=fun j e d hj hd'=>by
   rcases cases' hj with⟨hne,hj'⟩ | ⟨rfl,rfl⟩
   ·simp only[bO.dT]at hd';rw[if_neg hne]at hd';exact h.own j e d hj' hd'
   ·simp only[bO.dT,if_true,al0]at hd';subst hd';refine⟨fun _=>?_,.inl h.size⟩;cases hH:H w.heap.size with
    | none=>rfl
    | some cs'=>have:=h.aF hH;omega
  inj:=fun j j' e e' d d' hj hj' hd1 hd2 hb=>by
   rcases cases' hj with⟨hn1,hk1⟩ | ⟨rfl,rfl⟩<;>rcases cases' hj' with⟨hn2,hk2⟩ | ⟨rfl,rfl⟩
   ·simp only[bO.dT]at hd1 hd2;rw[if_neg hn1]at hd1;rw[if_neg hn2]at hd2;exact h.inj j j' e e' d d' hk1 hk2 hd1 hd2 hb
   ·simp only[bO.dT]at hd1 hd2;rw[if_neg hn1]at hd1;simp only[if_true,al0]at hd2;subst hd2;have:=h.lt hk1 hd1;simp only at hb;omega
   ·simp only[bO.dT]at hd1 hd2;rw[if_neg hn2]at hd2;simp only[if_true,al0]at hd1;subst hd1;have:=h.lt hk2 hd2;simp only at hb;omega
   ·rfl
  fresh:=fun j hj=>by
   simp only[List.length_set]at hj;simp only[bO.dT];rw[if_neg (by omega)];exact h.fresh j hj
  fU:=fun j d hj hd=>up j d (h.fU j d hj hd)
  eW:=h.eW }
theorem cv.sub{M':aJ}(h:cv C β H M w)(hl:M'.length=M.length)(hs:∀(k:Nat) (e:cx),M'[k]?=some (some e)→M[k]?=some (some e)):cv C β H M' w :=
 ⟨h.os,h.tape,h.output,h.size,h.frame,h.ext,h.new,h.inv,fun k e hk=>h.da k e (hs k e hk),fun k e d hk=>h.own k e d (hs k e hk),fun k k' e e' d d' hk hk'=>h.inj k k' e e' d d' (hs k e hk) (hs k' e' hk'),fun k hk=>h.fresh k (by omega),h.fU,h.eW⟩
structure ZS(C:Ctx)(n:Nat)(fr:List (Nat × SV))(M:aJ)(D:List dc)(x:Nat→Bool)(β:bO)(H:Hp)(a:Act)(w:World):Prop where
 F:gI β H n fr a
 W:cv C β H (dJ x D M) w
 S:∀d∈D,x d.i=true→∃v,a.tmps[d.t]?=some v∧Den β H (.ptr d.k 0 0) v
 N:∀d∈D,x d.i=false→β d.k=none
structure mY(P:Program)(ops:Array Oper)(n:Nat)(fr:List (Nat × SV))(M:aJ)(D:List dc):Prop where
 o:∀d∈D,∃T ty p af,ops[d.i]?=some ⟨some d.t,.alloc T,ty,p,af,none⟩∧az P T=some d.ti
 ni:(D.map (·.i)).Nodup
 nk:(D.map (·.k)).Nodup
 M:∀d∈D,M[d.k]?=some none
 t:∀d∈D,d.t<n
 nt:(D.map (·.t)).Nodup
 fr:∀d∈D,get fr d.t=none
def mY.fJ(D:List dc):List (Nat × Nat):=D.map fun d=>(d.i,d.t)
theorem lH{α:Type}(f:α→Nat):∀{D:List α},(D.map f).Nodup→∀{a b:α},a∈D→b∈D→f a=f b→a=b
 | [],_,_,_,h,_,_=>by cases h
 | c::D,hn,a,b,ha,hb,e=>by
  simp only[amc,am7]at hn;obtain⟨h1,h2⟩:=hn;rcases amM.1 ha with ea | ha'<;>rcases amM.1 hb with eb | hb'
  ·rw[ea,eb]
  ·subst ea;exact absurd (am8.2 ⟨b,hb',e.symm⟩) h1
  ·subst eb;exact absurd (am8.2 ⟨a,ha',e⟩) h1
  ·exact lH f h2 ha' hb' e
theorem iC{fr:List (Nat × SV)}{t:Nat}{d:Option Tmp}{x:Option SV}(h:get fr t=none)(hd:∀s,d=some s→s≠t):get (dd d x fr) t=none:=by
 cases d with
 | none=>cases x<;>exact h
 | some s=>cases x with
  | none =>
   cases hg:get (dd (some s) none fr) t with
   | none=>rfl
   | some y=>rw[(iZ hg).2]at h;cases h
  | some y=>simp only[dd,get];rw[if_neg (hd s rfl)];exact h
theorem iP{fr:List (Nat × SV)}{t s:Nat}(h:get fr t=none∨t=s):get (del fr s) t=none:=by
 cases hg:get (del fr s) t with
 | none=>rfl
 | some y =>
  obtain⟨h1,h2⟩:=iZ hg;rcases h with h | h
  ·rw[h]at h2;cases h2
  ·exact absurd h h1
theorem ZS.adQ{n:Nat}{fr:List (Nat × SV)}{D:List dc}{x:Nat→Bool}(hD:mY P ops n fr M D)(h:ZS C n fr M D x β H a w){d:dc}(hd:d∈D)(hx:x d.i=false) :
  ∃o v w' bd,ops[d.i]?=some o∧o.guard=none∧(execOp a.eval o).run P w=.ok (.value v) w'∧bd.b=w.heap.size∧w.heap.size≤w'.heap.size∧(∀b,b<w.heap.size→w'.heap[b]?=w.heap[b]?) ∧
   ZS C n fr M D (gQ x d.i) (β.dT d.k (some bd)) H (a.put o.dst v) w':=by
 obtain⟨T,ty,p,af,ho,hti⟩:=hD.o d hd;obtain⟨i1,d1,z1,ht⟩:=ay hti;obtain⟨v,hv1,hv2,hv3⟩:=oX ht β H;have hnone:(dJ x D M)[d.k]?=some none:=by
  rw[tq fun e he hxe hk=>?_]
  ·exact hD.M d hd
  ·have:e=d:=lH _ hD.nk he hd hk;rw[this,hx]at hxe;cases hxe
 have hW:=h.W.La (T:=T) (cs:=z1.cells) (s:=d.ti.size) (es:=[d.ti.cK]) (vs:=v.cells.toList) hnone (h.N d hd hx) (by simp only[aU];exact⟨v,[],by simp,by rw[hv2,hv3],hv1,rfl⟩) (by simp[hv2]) (fun q hq=>by simp[hv2]);have up:∀j e,β j=some e→(β.dT d.k (some ⟨w.heap.size,z1.cells.size,d.ti.size⟩)) j=some e:=fun j e hj=>by
  simp only[bO.dT];rw[if_neg];exact hj;intro e';subst e';rw[h.N d hd hx]at hj;cases hj
 have htn:=hD.t d hd;refine⟨_,.pointer (some ⟨w.heap.size,0,none⟩),w.alloc (.cells z1.cells T),⟨w.heap.size,z1.cells.size,d.ti.size⟩,ho,rfl,?_,rfl,by simp,fun b hb=>heap_alloc_old hb,?_,?_,fun e he hxe=>?_,fun e he hxe=>?_⟩
 ·simp[execOp,Instr.alloc,ht.jY,newVar,newRow]
 ·have:=(h.F.mono up (fun _ _ h=>h)).skip d.t (.pointer (some ⟨w.heap.size,0,none⟩));refine this.sub fun t' y hg=>?_;have hne:t'≠d.t:=fun e=>by rw[e,hD.fr d hd]at hg;cases hg
  have key:∀l:List (Nat × SV),get (del l d.t) t'=get l t':=fun l=>by
   induction l with
   | nil=>rfl
   | cons q l ih =>
    obtain⟨s,z⟩:=q;simp only[del,am4];by_cases e:s=d.t
    ·subst e;simp only[beq_self_eq_true,Bool.not_true,Bool.false_eq_true,if_false,get];rw[if_neg (Ne.symm hne)];exact ih
    ·simp only[beq_iff_eq,e,am6,beq_eq_false_iff_ne,ne_eq,not_false_eq_true,if_true,get];split
     ·rfl
     ·exact ih
  rw[key];exact hg
 ·rw[CN hd hD.ni hD.nk];exact hW
 ·by_cases e1:e.i=d.i
  ·have:e=d:=lH _ hD.ni he hd e1;subst this;refine⟨_,by simp[Act.put,h.F.2.1,htn];rfl,?_⟩;simp only[Den];exact⟨_,by simp[bO.dT];rfl,by simp⟩
  ·have hx':x e.i=true:=by simpa[gQ,e1]using hxe
   obtain⟨v',hv',hden⟩:=h.S e he hx';have hne:d.t≠e.t:=fun h'=>e1 (by rw[lH _ hD.nt he hd h'.symm]);refine⟨v',by simp only[Act.put];rw[al1 hne];exact hv',hden.up up (fun _ _ h=>h)⟩
 ·have e1:e.i≠d.i:=fun h'=>by simp[gQ,h']at hxe
  have hx':x e.i=false:=by simpa[gQ,e1]using hxe
  have hne:e.k≠d.k:=fun h'=>e1 (by rw[lH _ hD.nk he hd h']);simp only[bO.dT];rw[if_neg hne];exact h.N e he hx'
def pV(x:Nat→Bool)(D:List dc):Nat:=(D.filter fun d=>!x d.i).length
theorem qy{x:Nat→Bool}{D:List dc}{d:dc}(hd:d∈D)(hn:(D.map (·.i)).Nodup)(hx:x d.i=false):pV x D=pV (gQ x d.i) D+1:=by
 induction D with
 | nil=>cases hd
 | cons c D ih =>
  simp only[amc,am7]at hn;simp only[pV,am4];rcases amM.1 hd with rfl | hd
  ·have hsame:(D.filter fun e=>!gQ x d.i e.i)=D.filter fun e=>!x e.i:=am9 fun e he=>by
    have:e.i≠d.i:=fun h=>hn.1 (am8.2 ⟨e,he,h⟩);simp[gQ,this]
   rw[if_pos (by simp[hx]),if_neg (by simp[gQ]),hsame];rfl
  ·have hne:c.i≠d.i:=fun h=>hn.1 (am8.2 ⟨d,hd,h.symm⟩);have:=ih hd hn.2;simp only[pV]at this;have e:gQ x d.i c.i=x c.i:=by simp[gQ,hne]
   rw[e];split<;>simp[this]
theorem Ai{x:Nat→Bool}{D:List dc}(h:∀d∈D,x d.i=true):pV x D=0:=by
 simp only[pV,List.length_eq_zero_iff,List.filter_eq_nil_iff];intro d hd;simp[h d hd]
theorem Kl{k:Nat}{bd:Bd}{s s':Nat}{ks:List Nat}{b:Nat}(hs:s≤s')(hb:bd.b=s)(h:Wb (β.dT k (some bd)) s' ks b):Wb β s ks b:=by
 obtain⟨h1,h2⟩:=h;refine⟨h1,?_⟩;rcases h2 with h2 | h2 | ⟨j,h3,d,h4,h5⟩
 ·exact .inl h2
 ·exact .inr (.inl (by omega))
 ·by_cases e:j=k
  ·subst e;simp only[bO.dT,if_true,al0]at h4;subst h4;exact .inr (.inl (by omega))
  ·simp only[bO.dT]at h4;rw[if_neg e]at h4;exact .inr (.inr ⟨j,h3,d,h4,h5⟩)
def ZJ(P:Program)(C:Ctx)(ops:Array Oper)(pl:Pz)(D:List dc)(st:St)(Q:aV):Prop :=
 Region.noSelect ops=true→∀L,kV ops (mY.fJ D) L pl=true→mY P ops st.n st.fr st.M D→∀(m:Nat) (x:Nat→Bool) β H a w,pV x D=m→ZS C st.n st.fr st.M D x β H a w →
  pj P ops (QQ C Q) (fun j w1 w2=>GG H (Wb β w.heap.size (pl.Y j)) w1 w2) (pl.len+m) (fC x (D.map (·.i)) L) a w
theorem qx{pl:Pz}{D:List dc}(hD:mY P ops st.n st.fr st.M D)
  (step:∀(x:Nat→Bool) β H a w,ZS C st.n st.fr st.M D x β H a w →
   (∀d∈D,x d.i=false→wpOp P ops (QQ C Q) d.i (fun a' w'=>GG H (Wb β w.heap.size (pl.Y d.i)) w w'∧pj P ops (QQ C Q) (fun j w1 w2=>GG H (Wb β w.heap.size (pl.Y j)) w1 w2) (pl.len+pV x D - 1) ((fC x (D.map (·.i)) L).setIfInBounds d.i true) a' w') a w) →
   pj P ops (QQ C Q) (fun j w1 w2=>GG H (Wb β w.heap.size (pl.Y j)) w1 w2) (pl.len+pV x D) (fC x (D.map (·.i)) L) a w) :
  ∀(m:Nat) (x:Nat→Bool) β H a w,pV x D=m→ZS C st.n st.fr st.M D x β H a w→pj P ops (QQ C Q) (fun j w1 w2=>GG H (Wb β w.heap.size (pl.Y j)) w1 w2) (pl.len+m) (fC x (D.map (·.i)) L) a w:=by
 intro m
 induction m with
 | zero =>
  intro x β H a w hm hZ;have h:=step x β H a w hZ (fun d hd hx=>by have:=qy hd hD.ni hx;omega);rw[hm]at h;exact h
 | succ m ih =>
  intro x β H a w hm hZ;have h:=step x β H a w hZ (fun d hd hx=>?_)
  ·rw[hm]at h;exact h
  ·obtain⟨o,v,w',bd,h1,h2,h3,h4,h5,h6,h7⟩:=hZ.adQ hD hd hx;have hc:=qy hd hD.ni hx;have hih:=ih (gQ x d.i) _ H _ w' (by omega) h7;have hset:fC (gQ x d.i) (D.map (·.i)) L=(fC x (D.map (·.i)) L).setIfInBounds d.i true:=by
    rw[FD,if_pos (am8.2 ⟨d,hd,rfl⟩)]
   rw[hset]at hih;unfold wpOp;simp only[h1];rw[if_pos (by simp[Region.wanted,h2])];left;simp only[Oper.wp,h3,Oper.upon];refine⟨⟨⟨h5,fun b hb _=>h6 b hb⟩,fun b cs hb=>?_⟩,?_⟩
   ·obtain⟨T,z,hz⟩:=hZ.W.inv b cs hb;exact⟨T,z,by rw[h6 b (gn hz)];exact hz⟩
   ·have e:pl.len+pV x D - 1=pl.len+m:=by omega
    rw[e];exact ki _ _ _ _ (fun j w1 w2 _ hr=>⟨hr.1.mono fun b _ hb=>Kl h5 h4 hb,hr.2⟩) hih
theorem pf{fr:List (Nat × SV)}{n s:Nat}{d:Option Nat}(h:get fr s=none)(hd:∀t,d=some t→t≠s):get (fc n d fr) s=none:=by
 cases d with
 | none=>exact h
 | some t =>
  simp only[fc];split
  ·simp only[get];rw[if_neg (hd t rfl)];exact h
  ·exact iP (.inl h)
theorem yT{o:Oper}{yes no:St→Prop}(h:gd ops o st yes no)(hF:gI β H st.n st.fr a) :
  (Region.wanted o (yielded ops a.tmps)=true∧∃fr,(∀s,get st.fr s=none→get fr s=none)∧gI β H st.n fr a∧yes ⟨st.n,fr,st.M⟩) ∨
   (Region.wanted o (yielded ops a.tmps)=false∧∃fr,(∀s,get st.fr s=none→(∀t,o.dst=some t→t≠s)→get fr s=none)∧gI β H st.n fr (a.put o.dst undef)∧no ⟨st.n,fr,st.M⟩):=by
 unfold gd at h;split at h
 ·rename_i hg;exact .inl ⟨by simp[Region.wanted,hg],_,fun _ h=>h,hF,h⟩
 ·rename_i j b hg;split at h
  ·rename_i t ht;split at h
   ·rename_i c hc;obtain⟨v,hv,hden⟩:=hF.2.2 t _ hc;simp only[Den]at hden;obtain⟨rfl, -⟩:=hden;have hy:yielded ops a.tmps j=some c:=by
     unfold yielded;simp only[m6]at ht;rw[ht];simp[hv]
    have hsub:∀b',c=b'→gI β H st.n ((t,.val (.bool b'))::st.fr) a:=fun b' hb=>by
     subst hb;refine hF.sub fun t' x' hg'=>?_;simp only[get]at hg';split at hg'
     ·rename_i e;subst e;simp only[al0]at hg';subst hg';exact hc
     ·exact hg'
    have hn:∀(b':Bool) s,get st.fr s=none→get ((t,.val (.bool b'))::st.fr) s=none:=fun b' s hs=>by
     simp only[get];rw[if_neg];exact hs;intro e;subst e;rw[hs]at hc;cases hc
    by_cases hcb:c=b
    ·exact .inl ⟨by simp[Region.wanted,hg,hy,hcb],_,hn b,hsub b hcb,h.1 hcb⟩
    ·have hcb':c=!b:=by cases c<;>cases b<;>simp_all
     exact .inr ⟨by simp[Region.wanted,hg,hy,hcb],_,fun s hs hd=>pf (hn _ s hs) hd,(hsub _ hcb').fc o.dst,h.2 hcb'⟩
   ·rename_i hc;obtain⟨v,hv,hden⟩:=hF.2.2 t _ hc;obtain rfl:=wR hden;have hy:yielded ops a.tmps j=none:=by
     unfold yielded;simp only[m6]at ht;rw[ht];simp[hv]
    exact .inr ⟨by simp[Region.wanted,hg,hy],_,fun s hs hd=>pf hs hd,hF.fc o.dst,h⟩
   ·exact h.elim
  ·exact h.elim
theorem mY.frame{n:Nat}{fr fr':List (Nat × SV)}{D:List dc}(h:mY P ops n fr M D)(hf:∀d∈D,get fr' d.t=none):mY P ops n fr' M D:=⟨h.o,h.ni,h.nk,h.M,h.t,h.nt,hf⟩
theorem kf{D:List dc}{i:Nat}{o:Oper}(ho:ops[i]?=some o)(h:Ea ops i (mY.fJ D)=true):∀d∈D,∀s,o.dst=some s→s≠d.t:=fun d hd s hs e=>by
 simp only[Ea,ho,hs,am1,mY.fJ,am8,bne_iff_ne,ne_eq,forall_exists_index,and_imp]at h;exact h _ d hd rfl e.symm
theorem ZS.put{n:Nat}{fr fr':List (Nat × SV)}{D:List dc}{x:Nat→Bool}{d0:Option Tmp}{v:Value}(h:ZS C n fr M D x β H a w)(hF:gI β H n fr' (a.put d0 v))(hd:∀d∈D,∀s,d0=some s→s≠d.t):ZS C n fr' M D x β H (a.put d0 v) w :=
 ⟨hF,h.W,fun d hd' hx=>by
  obtain⟨v',hv',hden⟩:=h.S d hd' hx;refine⟨v',?_,hden⟩;cases d0 with
  | none=>exact hv'
  | some s=>simp only[Act.put];rw[al1 (hd d hd' s rfl)];exact hv',h.N⟩
theorem ZS.SO{n:Nat}{fr:List (Nat × SV)}{D:List dc}{x:Nat→Bool}(hD:mY P ops n fr M D)(h:ZS C n fr M D x β H a w):cv C β H M w :=
 h.W.sub (by rw[j0]) fun k e hk=>xG hD.M hk
theorem tx{x y:Nat→Bool}{D:List dc}(h:∀d∈D,x d.i=y d.i)(M:aJ):dJ x D M=dJ y D M:=by
 induction D with
 | nil=>rfl
 | cons d D ih=>simp only[dJ];rw[ih fun e he=>h e (by simp[he]),h d (by simp)]
theorem sK{x:Nat→Bool}{D:List dc}(h:∀d∈D,x d.i=true)(M:aJ):dJ x D M=iW D M:=by
 induction D with
 | nil=>rfl
 | cons d D ih=>simp only[dJ,iW];rw[ih fun e he=>h e (by simp[he]),if_pos (h d (by simp))]
theorem uY{x:Nat→Bool}{D:List dc}{c:dc}(h:x c.i=false)(M:aJ):dJ x (D++[c]) M=dJ x D M:=by
 induction D with
 | nil=>simp[dJ,h]
 | cons d D ih=>simp only[amF,dJ,ih]
theorem xD{x:Nat→Bool}{D:List dc}{M:aJ}(h:∀d∈D,d.k<M.length):dJ x D (M++[none])=dJ x D M++[none]:=by
 induction D with
 | nil=>rfl
 | cons d D ih =>
  simp only[dJ];rw[ih fun e he=>h e (by simp[he])];split
  ·rw[List.set_append_left _ _ (by rw[j0];exact h d (by simp))]
  ·rfl
theorem mb{x y:Nat→Bool}{D:List Nat}(h:∀i∈D,x i=y i)(L:Array Bool):fC x D L=fC y D L:=by
 induction D with
 | nil=>rfl
 | cons d D ih=>simp only[fC];rw[ih fun e he=>h e (by simp[he]),h d (by simp)]
theorem x9{x:Nat→Bool}{D:List Nat}{c:Nat}(h:x c=false)(L:Array Bool):fC x (D++[c]) L=fC x D L:=by
 induction D with
 | nil=>simp[fC,h]
 | cons d D ih=>simp only[amF,fC,ih]
theorem cv.grow(h:cv C β H M w):cv C β H (M++[none]) w :=
 have e:∀{k:Nat} {e:cx},(M++[none])[k]?=some (some e)→M[k]?=some (some e):=fun{k e} hk=>by
  rcases getElem?_snoc hk with⟨_,h'⟩ | ⟨_,h'⟩
  ·exact h'
  ·cases h'
 ⟨h.os,h.tape,h.output,h.size,h.frame,h.ext,h.new,h.inv,fun k e' hk=>h.da k e' (e hk),fun k e' d hk=>h.own k e' d (e hk),fun k k' e1 e2 d d' hk hk'=>h.inj k k' e1 e2 d d' (e hk) (e hk'),
  fun k hk=>h.fresh k (by simp at hk;omega),h.fU,h.eW⟩
theorem sL{n:Nat}{fr:List (Nat × SV)}(hF:gI β H n fr a):∀(D:List dc),(∀d∈D,∃v,a.tmps[d.t]?=some v∧Den β H (.ptr d.k 0 0) v)→gI β H n (ld D fr) a
 | [],_=>hF
 | d::D,h=>by
  have ih:=sL hF D fun e he=>h e (by simp[he]);refine⟨ih.1,ih.2.1,fun t y hg=>?_⟩;simp only[ld,get]at hg;split at hg
  ·rename_i e;subst e;simp only[al0]at hg;subst hg;exact h d (by simp)
  ·exact ih.2.2 t y hg
theorem wG{R:aV}(np:∀c st,¬R (.panic c) st):∀(pl:Pz) (D:List dc) (st:St) {Q QJ:aV},(∀e st,Q e st→R e st)→(∀e st,QJ e st→R e st)→tH P C ops D pl st Q QJ→ZJ P C ops pl D st R
 | .d i r,D,st,Q,QJ,hQ,hJ,h=>fun hns L hL hD m x β H a w hm hZ=>by
  simp only[tH]at h;split at h
  ·rename_i t T ty p af ho;split at h
   ·rename_i ti hti;obtain⟨htn,h⟩:=h;simp only[kV,ho,amS,am6]at hL;obtain⟨h1,h2,h3⟩:=hL;have hni:∀d∈D,d.i≠i:=fun d hd e=>by
     have:(mY.fJ D).any (fun d=>d.1==i)=true:=by
      simp only[mY.fJ,ana,am8];exact⟨(d.i,d.t),⟨d,hd,rfl⟩,by simp[e]⟩
     rw[this]at h1;cases h1
    have hkl:∀d∈D,d.k<st.M.length:=fun d hd=>by
     have:=hD.M d hd;rcases Nat.lt_or_ge d.k st.M.length with h' | h'
     ·exact h'
     ·rw[al2 h']at this;cases this
    have hntt:∀d∈D,d.t≠t:=fun d hd e=>by
     have:(mY.fJ D).any (fun d=>d.2==t)=true:=by
      simp only[mY.fJ,ana,am8];exact⟨(d.i,d.t),⟨d,hd,rfl⟩,by simp[e]⟩
     rw[this]at h2;cases h2
    have hD':mY P ops st.n (del st.fr t) (st.M++[none]) (D++[⟨i,t,st.M.length,ti⟩]):=by
     refine⟨fun d hd=>?_,?_,?_,fun d hd=>?_,fun d hd=>?_,?_,fun d hd=>?_⟩
     ·rcases amO.1 hd with hd | hd
      ·exact hD.o d hd
      ·simp only[amN]at hd;subst hd;exact⟨T,ty,p,af,ho,hti⟩
     ·rw[anb,anc];exact⟨hD.ni,by simp,fun a ha b hb=>by
       obtain⟨d,hd,rfl⟩:=am8.1 ha;simp only[amc,ane,amN]at hb;subst hb;exact hni d hd⟩
     ·rw[anb,anc];exact⟨hD.nk,by simp,fun a ha b hb=>by
       obtain⟨d,hd,rfl⟩:=am8.1 ha;simp only[amc,ane,amN]at hb;subst hb;have:=hkl d hd;omega⟩
     ·rcases amO.1 hd with hd | hd
      ·rw[List.getElem?_append_left (hkl d hd)];exact hD.M d hd
      ·simp only[amN]at hd;subst hd;simp
     ·rcases amO.1 hd with hd | hd
      ·exact hD.t d hd
      ·simp only[amN]at hd;subst hd;exact htn
     ·rw[anb,anc];exact⟨hD.nt,by simp,fun a ha b hb=>by
       obtain⟨d,hd,rfl⟩:=am8.1 ha;simp only[amc,ane,amN]at hb;subst hb;exact hntt d hd⟩
     ·rcases amO.1 hd with hd | hd
      ·exact iP (.inl (hD.fr d hd))
      ·simp only[amN]at hd;subst hd;exact iP (.inr rfl)
    obtain⟨y,hy⟩:∃y:Nat→Bool,y=fun j=>x j&&!(j==i):=⟨_,rfl⟩;have hyD:∀d∈D,y d.i=x d.i:=fun d hd=>by simp[hy,hni d hd]
    have hyi:y i=false:=by simp[hy]
    have hb:dJ y (D++[⟨i,t,st.M.length,ti⟩]) (st.M++[none])=dJ x D st.M++[none]:=by
     rw[uY hyi,xD hkl,tx hyD]
    have hZ':ZS C st.n (del st.fr t) (st.M++[none]) (D++[⟨i,t,st.M.length,ti⟩]) y β H a w:=by
     refine⟨hZ.F.sub fun t' z hg=>(iZ hg).2,by rw[hb];exact hZ.W.grow,fun d hd hx=>?_,fun d hd hx=>?_⟩
     ·rcases amO.1 hd with hd | hd
      ·exact hZ.S d hd (by rw[←hyD d hd];exact hx)
      ·simp only[amN]at hd;subst hd;rw[hyi]at hx;cases hx
     ·rcases amO.1 hd with hd | hd
      ·exact hZ.N d hd (by rw[←hyD d hd];exact hx)
      ·simp only[amN]at hd;subst hd;exact hZ.W.fresh _ (by rw[j0];exact Nat.le_refl _)
    have hcnt:pV y (D++[⟨i,t,st.M.length,ti⟩])=m+1:=by
     simp only[pV,List.filter_append,List.length_append];have e1:(D.filter fun d=>!y d.i)=D.filter fun d=>!x d.i:=am9 fun d hd=>by rw[hyD d hd]
     rw[e1];simp only[pV]at hm;simp[hm,hyi]
    have hr:=wG np r _ _ hQ hJ h hns L (by simpa[mY.fJ]using h3) hD' (m+1) y β H a w hcnt hZ';have hset:fC y ((D++[(⟨i,t,st.M.length,ti⟩:dc)]).map (·.i)) L=fC x (D.map (·.i)) L:=by
     rw[anb,amc,ane,x9 hyi];exact mb (fun j hj=>by obtain⟨d,hd,rfl⟩:=am8.1 hj;exact hyD d hd) L
    rw[hset]at hr;have e:(Pz.d i r).len+m=r.len+(m+1):=by simp only[Pz.len];omega
    rw[e];exact hr
   ·exact h.elim
  ·exact h.elim
 | .b r,D,st,Q,QJ,hQ,hJ,h=>fun hns L hL hD=>by
  simp only[tH]at h;simp only[kV,amS]at hL;refine qx hD fun x β H a w hZ hcome=>?_;obtain⟨q,hq1,hq2⟩:=im x _ _ _ hL.1;have hmap:(mY.fJ D).map (·.1)=D.map (·.i):=by simp[mY.fJ]
  rw[hmap]at hq1 hq2 hL;by_cases hall:∀d∈D,x d.i=true
  ·rw[Ai hall];have hset:fC x (D.map (·.i)) L=fC (fun _=>true) (D.map (·.i)) L:=mb (fun j hj=>by obtain⟨d,hd,rfl⟩:=am8.1 hj;exact hall d hd) L;rw[hset];have hW:=hZ.W;rw[sK hall]at hW;exact dS np r _ hQ hJ h hns _ hL.2 β H a w (sL hZ.F D fun d hd=>hZ.S d hd (hall d hd)) hW
  ·obtain⟨d0,hd0,hx0⟩:∃d∈D,x d.i=false:=by
    refine Classical.byContradiction fun hno=>hall fun d hd=>?_;cases hx:x d.i with
    | true=>rfl
    | false=>exact absurd ⟨d,hd,hx⟩ hno
   have hne:q.isEmpty=false:=by
    cases q with
    | nil=>have:=(hq2 d0.i).2 (.inr ⟨am8.2 ⟨d0,hd0,rfl⟩,hx0⟩);exact absurd this (by simp)
    | cons _ _=>rfl
   rw[hne]at hq1;simp only[Bool.false_or,amS,am6,am1,amX]at hq1;have hc:=qy hd0 hD.ni hx0;have e:(Pz.b r).len+pV x D=((Pz.b r).len+pV x D - 1)+1:=by omega
   rw[e];refine⟨fun h0=>(by rw[h0]at hq1;simp at hq1),fun j hj=>?_⟩;rcases(hq2 j).1 (hq1.2 j hj)with h' | ⟨h',hx'⟩
   ·cases h'
   ·obtain⟨d,hd,rfl⟩:=am8.1 h';exact hcome d hd hx'
 | .p i r,D,st,Q,QJ,hQ,hJ,h=>fun hns L hL hD=>by
  simp only[tH]at h;split at h
  ·exact fun _ _ _ _ _ _ _ _=>h.elim
  ·rename_i o ho;simp only[kV,amS,am6]at hL;obtain⟨hdst, -,hall,hr⟩:=hL;refine qx hD fun x β H a w hZ hcome=>?_;obtain⟨q,hq1,hq2⟩:=im x _ _ _ hall;have hmap:(mY.fJ D).map (·.1)=D.map (·.i):=by simp[mY.fJ]
   rw[hmap]at hq1 hq2;simp only[amS,am1,amX,am2,beq_iff_eq]at hq1;have e:(Pz.p i r).len+pV x D=((Pz.p i r).len+pV x D - 1)+1:=by simp only[Pz.len];omega
   rw[e];refine⟨fun h0=>(by rw[h0]at hq1;simp at hq1),fun j hj=>?_⟩;have done:j∈q→wpOp P ops (QQ C R) j (fun a' w'=>GG H (Wb β w.heap.size ((Pz.p i r).Y j)) w w'∧pj P ops (QQ C R) (fun j w1 w2=>GG H (Wb β w.heap.size ((Pz.p i r).Y j)) w1 w2) ((Pz.p i r).len+pV x D - 1) ((fC x (D.map (·.i)) L).setIfInBounds j true) a' w') a w:=fun hjq=>by
    rcases(hq2 j).1 hjq with h' | ⟨h',hx'⟩
    ·cases h'
    ·obtain⟨d,hd,rfl⟩:=am8.1 h';exact hcome d hd hx'
   rcases hq1.2 j hj with rfl | hjq
   ·have hlen:(Pz.p j r).len+pV x D - 1=r.len+pV x D:=by simp only[Pz.len];omega
    rw[hlen];unfold wpOp;simp only[ho];rcases yT h hZ.F with⟨hw,fr,hfr,hF',hyes⟩ | ⟨hw,fr,hfr,hF',hno⟩
    ·rw[if_pos hw];left;unfold lu at hyes;split at hyes
     ·rename_i f args ts hop;split at hyes
      ·rename_i xs hxs;obtain⟨hf,hdk,hks,args',Φ,hsub,hpure,hk⟩:=hyes;have hrun:(execOp a.eval o).run P w=.ok (.enter f (args.map a.eval)) w:=by
        obtain⟨dst,op,type,pos,after,guard⟩:=o;simp only at hop;subst hop;simp only[execOp,resolve,Act.eval,Deferred.ofValue,Sem.run_bind,Sem.run_pure,Result.andThen_ok,invoke];simpa using hf (args.map a.eval) w
       simp only[Oper.wp,hrun,Oper.upon];have hvals:=jr hF' _ _ hxs;have hWM:=hZ.SO hD;have hvals':=fL hWM hsub ⟨fun k e _ hk=>by rw[hks]at hk;cases hk⟩ hvals;have hcall:=hpure H w _ hWM.zj hvals';rw[show(args.toList.map a.eval).toArray=args.map a.eval from by apply Array.ext';simp]at hcall;refine Calls.mono hcall ?_;rintro e' w' ⟨H',v,z,rfl,g1,g2,g3,g4,g5,g6⟩;have hF2:gI β H' st.n (dd o.dst (some z) fr) (a.put o.dst v):=(hF'.mono (fun _ _ h=>h) g3).dd hdk (g1.up (fun k d hd=>by simp[lF]at hd) (fun _ _ h=>h));have hslot:=kf ho hdst;have hZ2:ZS C st.n (dd o.dst (some z) fr) st.M D x β H' (a.put o.dst v) w':=by
        refine⟨hF2,hZ.W.after g6 g3 g4 g5,fun d hd hx=>?_,hZ.N⟩;obtain⟨v',hv',hden⟩:=hZ.S d hd hx;refine⟨v',?_,hden.up (fun _ _ h=>h) g3⟩;cases hd0:o.dst with
        | none=>exact hv'
        | some s=>simp only[Act.put];rw[al1 (hslot d hd s hd0)];exact hv'
       have hih:=wG np r D ⟨st.n,dd o.dst (some z) fr,st.M⟩ hJ hJ (hk z g2) hns _ hr (hD.frame fun d hd=>iC (hfr _ (hD.fr d hd)) (hslot d hd)) _ x β H' _ w' rfl hZ2;rw[ik]at hih;refine⟨⟨⟨g6.size,fun b hb _=>g6.block b hb⟩,nG.mono (H':=H') g5.1 g3⟩,?_⟩;refine ki _ _ _ _ (fun j' w1 w2 _ hr'=>⟨hr'.1.mono fun b _ hb=>?_,hr'.2.mono g3⟩) hih;obtain⟨b1,b2⟩:=hb;exact⟨b1,b2.imp id (Or.imp (fun h=>Nat.le_trans g6.size h) id)⟩
      ·exact hyes.elim
     ·exact hyes.elim
    ·rw[if_neg (by simp[hw])];have hslot:=kf ho hdst;have hZ2:=hZ.put hF' hslot;have hih:=wG np r D ⟨st.n,fr,st.M⟩ hQ hJ hno hns _ hr (hD.frame fun d hd=>hfr _ (hD.fr d hd) (hslot d hd)) _ x β H _ w rfl hZ2;rw[ik]at hih;exact⟨⟨RS.xc w,hZ.W.inv⟩,hih⟩
   ·exact done hjq
 | .q i ks r,D,st,Q,QJ,hQ,hJ,h=>fun hns L hL hD m x β H a w hm hZ=>by
  simp only[kV,amS,am6]at hL;obtain⟨hdst, -,hall,hL⟩:=hL;obtain⟨qq,hq, -⟩:=im x _ _ _ hall;have hmap:(mY.fJ D).map (·.1)=D.map (·.i):=by simp[mY.fJ]
  rw[hmap]at hq;have hF:=hZ.F;have hW:=hZ.SO hD;simp only[tH]at h;split at h
  ·exact h.elim
  ·rename_i o ho;have hslot:=kf ho hdst;simp only[Ve,ho,amS]at hq;obtain⟨h1,h2,h3,h4,h5⟩:=hq;simp only[am1,amS,am6]at h4
   let Dd:Nat→Bool:=fun j=>(LQ ops i).contains j
   let U:Nat→Prop:=fun b=>∃j,j<ops.size∧j≠i∧Dd j=false∧(fC x (D.map (·.i)) L).getD j true=false∧Wb β w.heap.size (r.Y j) b
   have hUk:(∃t x,o.op=.load t x)→∀b,U b→b<w.heap.size→o8∈ks∨∃k∈ks,∃d,β k=some (some d)∧d.b=b:=by
    rintro⟨t',x',hop⟩ b ⟨j,hj1,hj2,hj3,hj4,hw1,hw2⟩ hb;obtain⟨dst,op,type,pos,after,guard⟩:=o;simp only at hop;subst hop;simp only[am1,List.mem_range,am2,beq_iff_eq]at h5;have hks:∀k∈r.Y j,k∈ks:=fun k hk=>by
     rcases h5 j hj1 with h | h | h | h
     ·exact absurd h hj2
     ·rw[hj4]at h;cases h
     ·rw[show(LQ ops i).contains j=false from hj3]at h;cases h
     ·have:=h k hk;simpa using this
    rcases hw2 with hw2 | hw2 | ⟨k,hk,d,hd,hdb⟩
    ·exact .inl (hks _ hw2)
    ·omega
    ·exact .inr ⟨k,hks k hk,d,hd,hdb⟩
   have core:∀v,YieldsIf P ops (fun w'=>RS U w w'∧nG H w') o v a→(∃fr,(∀d∈D,get fr d.t=none)∧gI β H st.n fr (a.put o.dst v)∧tH P C ops D r ⟨st.n,fr,st.M⟩ Q QJ)→pj P ops (QQ C R) (fun j w1 w2=>GG H (Wb β w.heap.size ((Pz.q i ks r).Y j)) w1 w2) ((Pz.q i ks r).len+m) (fC x (D.map (·.i)) L) a w:=by
    rintro v hy ⟨fr,hfr,hF',hv⟩;have e:(Pz.q i ks r).len+m=(r.len+m)+1:=by simp only[Pz.len];omega
    rw[e];refine sF (D:=Dd) (S:=fun w'=>RS U w w'∧nG H w') ho (Region.noSelect_spec hns) (fun c a' w' ⟨st',hp,_⟩=>absurd hp (np c st')) (fun j oj hj hoj=>?_) (fun w1 hs=>⟨RS.xc w1,hs.2⟩) _ _ a w ?_ (fun j hj=>?_) (Region.free_spec ho h2) (by simpa using h3) hy ⟨RS.xc w,hW.inv⟩ ?_
    ·have:=h4 j (by simpa[Dd]using hj);rw[hoj]at this;simp only[Array.any_eq_true',amS,am2,beq_iff_eq]at this;exact this.2
    ·intro j w1 w2 hj1 hj2 hj3 hj4 hs hg;exact⟨hs.1.trans hg.1 fun b _ hb=>⟨j,hj1,hj2,hj3,hj4,hb⟩,hg.2⟩
    ·exact(h4 j (by simpa[Dd]using hj)).1
    ·have hih:=wG np r D ⟨st.n,fr,st.M⟩ hQ hJ hv hns _ hL (hD.frame hfr) m x β H _ w hm (hZ.put hF' hslot);rw[ik]at hih;exact hih
   rcases yT h hF with⟨hw,fr,hfr,hF',hi,hyes⟩ | ⟨hw,fr,hfr,hF',hno'⟩
   ·obtain⟨c,y,hy,hc,hd,hnx⟩:=pM h1 hi hyes;obtain⟨v,hv1,hv2⟩:=HX (st:=⟨st.n,fr,st.M⟩) hW hF' hy hc hi hUk;exact core v (.inl ⟨hw,hv1⟩) ⟨_,fun d hd'=>iC (hfr _ (hD.fr d hd')) (hslot d hd'),hF'.dd hd hv2,hnx⟩
   ·exact core undef (.inr ⟨hw,rfl⟩) ⟨fr,fun d hd'=>hfr _ (hD.fr d hd') (hslot d hd'),hF',hno'⟩
theorem ae.yj{id:Nat}(pl:Pz)(hm:P.follows .mixedOrders=true)(hp:(Region.noSelect ops&&(kV ops [] (Array.replicate ops.size false) pl&&decide (pl.len≤ops.size)))=true)(np:∀c st,¬QJ (.panic c) st)
  (h:tH P C ops [] pl st QJ QJ):ae P C (.region id ops true) st QJ:=by
 simp only[amS,decide_eq_true_eq]at hp;rintro a w ⟨β,H,hF,hW⟩;have hD:mY P ops st.n st.fr st.M []:=⟨by simp,by simp,by simp,by simp,by simp,by simp,by simp⟩;have hj:=wG np pl [] st (fun _ _ h=>h) (fun _ _ h=>h) h hp.1 _ hp.2.1 hD 0 (fun _=>false) β H a _ rfl ⟨hF,hW.drew,by simp,by simp⟩;exact wp_region_any hm (ur _ _ _ _ (yC hp.2.2 hj))
end
/-! how simp runs it -/
def NT(P:Program)(C:Ctx)(ops:Array Oper)(D:List dc)(r:Pz)(Q QJ:aV)(st:St):Prop:=tH P C ops D r st Q QJ
def njZ(P:Program)(C:Ctx)(ops:Array Oper)(D:List dc)(r:Pz)(QJ:aV)(st:St):Prop:=tH P C ops D r st QJ QJ
def KU(d:Option Tmp)(st:St)(next:St→Prop)(z:SV):Prop:=next ⟨st.n,dd d (some z) st.fr,st.M⟩
def CB(P:Program)(f:FuncId)(xs:Option (List SV))(d:Option Tmp)(st:St)(next:St→Prop):Prop:=match xs with
 | some xs=>al P f∧sS d st.n∧qH P f xs st.M (KU d st next)
 | none=>False
section
variable {P:Program} {C:Ctx} {st:St} {Q QJ:aV} {l:List Oper} {D:List dc} {d:Option Tmp} {op:Op} {t:TypeId} {p:String} {af:Array Edge} {g:Option (Nat × Bool)} {o:Oper} {r:Pz} {i:Nat} {ks:List Nat} {next:St→Prop}
@[simp] theorem aaO:NT P C l.toArray D r Q QJ st=tH P C l.toArray D r st Q QJ:=rfl
@[simp] theorem Yw:njZ P C l.toArray D r QJ st=tH P C l.toArray D r st QJ QJ:=rfl
@[simp] theorem agz{z:SV}:KU d st next z=next ⟨st.n,dd d (some z) st.fr,st.M⟩:=rfl
@[simp] theorem MF{f:FuncId}{xs:List SV}:CB P f (some xs) d st next=(al P f∧sS d st.n∧qH P f xs st.M (KU d st next)):=rfl
def zQ(P:Program)(C:Ctx)(l:List Oper)(D:List dc)(ks:List Nat)(o:Oper)(r:Pz)(Q QJ:aV)(st:St):Prop:=w8 ks st o.op∧cE P C none o st (NT P C l.toArray D r Q QJ) Sg
def zP(P:Program)(C:Ctx)(l:List Oper)(D:List dc)(o:Oper)(r:Pz)(QJ:aV)(st:St):Prop:=lu P o st (njZ P C l.toArray D r QJ)
@[simp] theorem aer:zQ P C l D ks o r Q QJ st=(w8 ks st o.op∧cE P C none o st (NT P C l.toArray D r Q QJ) Sg):=rfl
@[simp] theorem adH:zP P C l D o r QJ st=lu P o st (njZ P C l.toArray D r QJ):=rfl
@[simp ↓] theorem JQ{f:FuncId}{os:List Operand}{ts:Array TypeId}:lu P ⟨d,.call ⟨.value (.func f),os.toArray,ts⟩,t,p,af,g⟩ st next=CB P f (rQ st.fr os) d st next:=by
 simp only[lu,CB];cases rQ st.fr os<;>rfl
def oQ(P:Program)(C:Ctx)(l:List Oper)(D:List dc)(ks:List Nat)(o:Option Oper)(r:Pz)(st:St)(Q QJ:aV):Prop:=match o with
 | some o=>gd l.toArray o st (zQ P C l D ks o r Q QJ) (NT P C l.toArray D r Q QJ)
 | none=>False
def oP(P:Program)(C:Ctx)(l:List Oper)(D:List dc)(o:Option Oper)(r:Pz)(st:St)(Q QJ:aV):Prop:=match o with
 | some o=>gd l.toArray o st (zP P C l D o r QJ) (NT P C l.toArray D r Q QJ)
 | none=>False
def oT(P:Program)(C:Ctx)(l:List Oper)(D:List dc)(i t:Nat)(ti:Option TI)(r:Pz)(st:St)(Q QJ:aV):Prop:=match ti with
 | some ti=>t<st.n∧tH P C l.toArray (D++[⟨i,t,st.M.length,ti⟩]) r ⟨st.n,del st.fr t,st.M++[none]⟩ Q QJ
 | none=>False
def oD(P:Program)(C:Ctx)(l:List Oper)(D:List dc)(i:Nat)(o:Option Oper)(r:Pz)(st:St)(Q QJ:aV):Prop:=match o with
 | some ⟨some t,.alloc T,_,_,_,none⟩=>oT P C l D i t (az P T) r st Q QJ
 | _=>False
@[simp] theorem YA:oQ P C l D ks (some o) r st Q QJ=gd l.toArray o st (zQ P C l D ks o r Q QJ) (NT P C l.toArray D r Q QJ):=rfl
@[simp] theorem abD:oP P C l D (some o) r st Q QJ=gd l.toArray o st (zP P C l D o r QJ) (NT P C l.toArray D r Q QJ):=rfl
@[simp] theorem abQ{t:Nat}{ti:TI}:oT P C l D i t (some ti) r st Q QJ=(t<st.n∧tH P C l.toArray (D++[⟨i,t,st.M.length,ti⟩]) r ⟨st.n,del st.fr t,st.M++[none]⟩ Q QJ):=rfl
@[simp] theorem acO{t':Nat}{T:TypeId}:oD P C l D i (some ⟨some t',.alloc T,t,p,af,none⟩) r st Q QJ=oT P C l D i t' (az P T) r st Q QJ:=rfl
@[simp] theorem abF:Pz.qs [] r=r:=rfl
@[simp] theorem Uh{is:List Nat}:Pz.qs (i::is) r=.q i [] (Pz.qs is r):=rfl
@[simp ↓] theorem ahJ{r:Pl}:tH P C l.toArray D (.b r) st Q QJ=eN P C l.toArray r ⟨st.n,ld D st.fr,iW D st.M⟩ Q QJ:=rfl
@[simp ↓] theorem aie:tH P C l.toArray D (.q i ks r) st Q QJ=oQ P C l D ks (jD l i) r st Q QJ:=by
 simp only[tH,gU];cases jD l i<;>rfl
@[simp ↓] theorem aiv:tH P C l.toArray D (.p i r) st Q QJ=oP P C l D (jD l i) r st Q QJ:=by
 simp only[tH,gU];cases jD l i<;>rfl
@[simp ↓] theorem ahL:tH P C l.toArray D (.d i r) st Q QJ=oD P C l D i (jD l i) r st Q QJ:=by
 simp only[tH,gU,oD,oT]
@[simp] theorem Pf{fr:List (Nat × SV)}:ld [] fr=fr:=rfl
@[simp] theorem L7{d:dc}{fr:List (Nat × SV)}:ld (d::D) fr=(d.t,.ptr d.k 0 0)::ld D fr:=rfl
@[simp] theorem Qz{M:aJ}:iW [] M=M:=rfl
@[simp] theorem NB{d:dc}{M:aJ}:iW (d::D) M=aN (iW D M) d.k (I3 d):=by rw[ez];rfl
@[simp] theorem aaC{i t k:Nat}{ti:TI}:I3 ⟨i,t,k,ti⟩=some ⟨ti.size,[ti.cK],false⟩:=rfl
end
theorem Vq{P:Program}{f:FuncId}{args args':List SV}{y:SV}{M:aJ}{k:SV→Prop}(h:aI P f args' y)(hk0:SV.qk args=[])(hs:cA M args args')(hk:k y):qH P f args M k :=
 ⟨hk0,args',_,hs,h,fun x hx=>by rw[hx];exact hk⟩
mutual
theorem eh(M:aJ):∀x:SV,x.pure=true→Sub M x x
 | .val v,_=>by simp only[Sub]
 | .ptr _ _ _,h=>by simp[SV.pure]at h
 | .view _ _ _,h=>by simp[SV.pure]at h
 | .mp _,h=>by simp[SV.pure]at h
 | .ro _,_=>rfl
 | .bU _ _,_=>rfl
 | .fp _ _,_=>rfl
 | .any,_=>rfl
 | .gA _ l r,h=>by
  simp only[SV.pure,amS]at h;simp only[Sub];exact⟨trivial,ij M l h.1,ij M r h.2⟩
 | .agg l,h=>by simp only[Sub];exact ij M l (by simpa[SV.pure]using h)
 | .bG l,h=>by simp only[Sub];exact ij M l (by simpa[SV.pure]using h)
 | .iw _ x,h=>by simp only[Sub];exact⟨trivial,eh M x (by simpa[SV.pure]using h)⟩
theorem ij(M:aJ):∀l:List SV,SV.ba l=true→cA M l l
 | [],_=>by simp only[cA]
 | x::l,h=>by
  simp only[SV.ba,amS]at h;simp only[cA];exact⟨eh M x h.1,ij M l h.2⟩
end
mutual
theorem D5:∀x:SV,x.pure=true→x.ks=[]
 | .val _,_=>rfl
 | .ptr _ _ _,h=>by simp[SV.pure]at h
 | .view _ _ _,h=>by simp[SV.pure]at h
 | .mp _,h=>by simp[SV.pure]at h
 | .ro _,_=>rfl
 | .bU _ _,_=>rfl
 | .fp _ _,_=>rfl
 | .any,_=>rfl
 | .gA _ l r,h=>by
  simp only[SV.pure,amS]at h;simp[SV.ks,jE l h.1,jE r h.2]
 | .agg l,h=>by simp only[SV.ks];exact jE l (by simpa[SV.pure]using h)
 | .bG l,h=>by simp only[SV.ks];exact jE l (by simpa[SV.pure]using h)
 | .iw _ x,h=>by simp only[SV.ks];exact D5 x (by simpa[SV.pure]using h)
theorem jE:∀l:List SV,SV.ba l=true→SV.qk l=[]
 | [],_=>rfl
 | x::l,h=>by
  simp only[SV.ba,amS]at h;simp[SV.qk,D5 x h.1,jE l h.2]
end
theorem ai{P:Program}{C:Ctx}{f:FuncId}{args:List SV}{y:SV}{M:aJ}{W:Option (List Nat)}{k:aJ→List Nat→SV→Prop}(h:aI P f args y)(hp:SV.ba args=true)(hk:k M [] y):dH P C f args M W k :=
 aZ h (ij M args hp) (by rw[jE args hp];exact hk)
theorem alT{P:Program}{C:Ctx}{f:FuncId}{a:List SV}{y:SV}{M:aJ}{W:Option (List Nat)}{k:aJ→List Nat→SV→Prop}(h:aI P f a y)(g:k M [] y)(p:SV.ba a=true:=by simp):dH P C f a M W k:=ai h p g
theorem mS{P:Program}{f:FuncId}{args:List SV}{y:SV}{M:aJ}{k:SV→Prop}(h:aI P f args y)(hp:SV.ba args=true)(hk:k y):qH P f args M k :=
 Vq h (jE args hp) (ij M args hp) hk
end Go.Sv

