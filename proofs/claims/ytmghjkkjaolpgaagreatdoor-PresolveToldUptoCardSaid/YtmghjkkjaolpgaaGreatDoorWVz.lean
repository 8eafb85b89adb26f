/- A text of the prover's own. -/
import Derived.Test.YtmghjkkjaolpgaaGreatDoorWVy
open Array renaming setIfInBounds_comm→alY,getElem?_setIfInBounds_ne→akS
open Bool renaming or_eq_true→alV,and_eq_true→alL,not_eq_true'→alZ
open List renaming mem_cons→alF,mem_append→alH,getElem?_set_ne→alo,map_cons→ak3,nodup_cons→al0,mem_map→al1,getElem?_eq_none→akT,filter_cons→alX,filter_congr→al2,all_eq_true→alU,cons_append→aly,any_eq_true→al3,mem_singleton→alG,map_append→al4,nodup_append→al5,map_nil→al6,contains_iff_mem→alQ
open Option.some renaming injEq→akR
namespace Go.Sv
open Go Go.RowKit
structure dc where
 i:Nat
 t:Nat
 k:Nat
 ti:TI
inductive Pz
 | q (i:Nat) (ks:List Nat) (r:Pz)
 | p (i:Nat) (r:Pz)
 | d (i:Nat) (r:Pz)
 | b (r:Pl)
def Pz.qs:List Nat→Pz→Pz
 | [],r=>r
 | i::is,r=>.q i [] (Pz.qs is r)
def Pz.Y:Pz→Nat→List Nat
 | .q _ _ r,x=>r.Y x
 | .p _ r,x=>r.Y x
 | .d _ r,x=>r.Y x
 | .b r,x=>r.Y x
def Pz.len:Pz→Nat
 | .q _ _ r=>r.len+1
 | .p _ r=>r.len+1
 | .d _ r=>r.len+1
 | .b r=>r.len
def fk(x:Nat→Bool):List Nat→Array Bool→Array Bool
 | [],L=>L
 | i::D,L=>if x i=true then(fk x D L).setIfInBounds i true else fk x D L
def BD:List Nat→List Nat→Array Bool→(Array Bool→List Nat→Bool)→Bool
 | [],p,L,f=>f L p
 | i::D,p,L,f=>BD D (p++[i]) L f&&BD D p (L.setIfInBounds i true) f
def CQ(ops:Array Oper)(i:Nat)(D:List (Nat × Nat)):Bool:=match ops[i]? with
 | some o=>match o.dst with
  | some t=>D.all fun d=>d.2 != t
  | none=>true
 | none=>false
def k7(ops:Array Oper):List (Nat × Nat)→Array Bool→Pz→Bool
 | D,L,.d i r=>(match ops[i]? with
  | some ⟨some t,.alloc _,_,_,_,none⟩=>!(D.any fun d=>d.1==i)&&(!(D.any fun d=>d.2==t)&&k7 ops (D++[(i,t)]) L r)
  | _=>false)
 | D,L,.q i ks r=>CQ ops i D&&(!(D.any fun d=>d.1==i)&&(BD (D.map (·.1)) [] L (fun L' _=>O7 ops L' i ks r.Y)&&k7 ops D (L.setIfInBounds i true) r))
 | D,L,.p i r=>CQ ops i D&&(!(D.any fun d=>d.1==i)&&(BD (D.map (·.1)) [] L (fun L' pend=>(Region.ready .any ops L').contains i&&(Region.ready .any ops L').all fun j=>j==i||pend.contains j)&&k7 ops D (L.setIfInBounds i true) r))
 | D,L,.b r=>BD (D.map (·.1)) [] L (fun L' pend=>pend.isEmpty||(!(Region.ready .any ops L').isEmpty&&(Region.ready .any ops L').all fun j=>pend.contains j))&&dD ops (fk (fun _=>true) (D.map (·.1)) L) r
def rJ(P:Program)(f:FuncId)(xs:List SV)(M:aJ)(K:SV→Prop):Prop:=SV.rL xs=[]∧∃args' Φ,cz M xs args'∧m8 P f args' Φ∧∀x,Φ x→K x
def l4(P:Program)(o:Oper)(st:St)(K:St→Prop):Prop:=match o.op with
 | .call ⟨.value (.func f),args,_⟩=>match qc st.fr args.toList with
  | some xs=>ak P f∧rS o.dst st.n∧rJ P f xs st.M fun x=>K ⟨st.n,cX o.dst (some x) st.fr,st.M⟩
  | none=>False
 | _=>False
def GO(d:dc):Option cx:=some ⟨d.ti.size,[d.ti.cK],false⟩
def lG:List dc→List (Nat × SV)→List (Nat × SV)
 | [],fr=>fr
 | d::D,fr=>(d.t,.ptr d.k 0 0)::lG D fr
def jk:List dc→aJ→aJ
 | [],M=>M
 | d::D,M=>(jk D M).set d.k (GO d)
def tG(P:Program)(C:Ctx)(ops:Array Oper):List dc→Pz→St→aX→aX→Prop
 | D,.d i r,st,Q,QJ=>(match ops[i]? with
  | some ⟨some t,.alloc T,_,_,_,none⟩=>match aA P T with
   | some ti=>t<st.n∧tG P C ops (D++[⟨i,t,st.M.length,ti⟩]) r ⟨st.n,del st.fr t,st.M++[none]⟩ Q QJ
   | none=>False
  | _=>False)
 | D,.q i ks r,st,Q,QJ=>match ops[i]? with
  | none=>False
  | some o=>gd ops o st (fun st'=>ue ks st' o.op∧cf P C none o st' (fun st''=>tG P C ops D r st'' Q QJ) (fun _=>False)) (fun st'=>tG P C ops D r st' Q QJ)
 | D,.p i r,st,Q,QJ=>match ops[i]? with
  | none=>False
  | some o=>gd ops o st (fun st'=>l4 P o st' (fun st''=>tG P C ops D r st'' QJ QJ)) (fun st'=>tG P C ops D r st' Q QJ)
 | D,.b r,st,Q,QJ=>dW P C ops r ⟨st.n,lG D st.fr,jk D st.M⟩ Q QJ
section
variable {P:Program} {C:Ctx} {ops:Array Oper} {L:Array Bool} {Q QJ:aX} {st:St} {β:bU} {H:Hp} {a:Act} {w:World} {M:aJ}
theorem iA(x:Nat→Bool)(D:List Nat)(L:Array Bool)(i:Nat):fk x D (L.setIfInBounds i true)=(fk x D L).setIfInBounds i true:=by
 induction D with
 | nil=>rfl
 | cons j D ih =>
  simp only[fk];rw[ih];split
  ·by_cases e:i=j
   ·subst e;rfl
   ·rw[alY _ _ e]
  ·rfl
def gW(x:Nat→Bool)(j:Nat):Nat→Bool:=fun i=>x i||i==j
theorem Fo(x:Nat→Bool)(j:Nat)(D:List Nat)(L:Array Bool):fk (gW x j) D L=if j∈D then(fk x D L).setIfInBounds j true else fk x D L:=by
 induction D with
 | nil=>rfl
 | cons i D ih =>
  simp only[fk,gW,ih];by_cases e:i=j
  ·subst e;simp only[beq_self_eq_true,Bool.or_true,if_true,alF,true_or];split<;>split<;>simp
  ·have e':¬j=i:=fun h=>e h.symm;simp only[beq_iff_eq,e,e',alV,or_false,alF,false_or];split
   ·split
    ·rw[alY _ _ e']
    ·rfl
   ·rfl
theorem iD{f:Array Bool→List Nat→Bool}(x:Nat→Bool):∀(D p:List Nat) (L:Array Bool),BD D p L f=true →
  ∃q,f (fk x D L) q=true∧∀j,j∈q↔j∈p∨(j∈D∧x j=false)
 | [],p,L,h=>⟨p,h,fun j=>by simp⟩
 | i::D,p,L,h=>by
  simp only[BD,alL]at h;simp only[fk];by_cases hx:x i=true
  ·obtain⟨q,h1,h2⟩:=iD x D p _ h.2;rw[iA]at h1;rw[if_pos hx];refine⟨q,h1,fun j=>?_⟩;rw[h2 j];simp only[alF];constructor
   ·rintro(h | h)
    ·exact .inl h
    ·exact .inr ⟨.inr h.1,h.2⟩
   ·rintro(h | ⟨h | h,h'⟩)
    ·exact .inl h
    ·subst h;rw[hx]at h';cases h'
    ·exact .inr ⟨h,h'⟩
  ·obtain⟨q,h1,h2⟩:=iD x D _ L h.1;rw[if_neg hx];refine⟨q,h1,fun j=>?_⟩;rw[h2 j];simp only[alH,alF,List.not_mem_nil,or_false];have hx':x i=false:=by simpa using hx
   constructor
   ·rintro((h | h) | h)
    ·exact .inl h
    ·subst h;exact .inr ⟨.inl rfl,hx'⟩
    ·exact .inr ⟨.inr h.1,h.2⟩
   ·rintro(h | ⟨h | h,h'⟩)
    ·exact .inl (.inl h)
    ·exact .inl (.inr h)
    ·exact .inr ⟨h,h'⟩
/-! the table, with those that have come -/
def dI(x:Nat→Bool):List dc→aJ→aJ
 | [],M=>M
 | d::D,M=>if x d.i=true then(dI x D M).set d.k (GO d) else dI x D M
theorem kj(x:Nat→Bool)(D:List dc)(M:aJ):(dI x D M).length=M.length:=by
 induction D with
 | nil=>rfl
 | cons d D ih=>simp only[dI];split<;>simp[ih]
theorem s9{x:Nat→Bool}{D:List dc}{M:aJ}{k:Nat}(h:∀d∈D,x d.i=true→d.k≠k):(dI x D M)[k]?=M[k]?:=by
 induction D with
 | nil=>rfl
 | cons d D ih =>
  have ih:=ih fun e he=>h e (by simp[he]);simp only[dI];split
  ·rename_i hx;rw[alo (h d (by simp) hx)];exact ih
  ·exact ih
theorem xV{x:Nat→Bool}{D:List dc}{M:aJ}(h:∀d∈D,M[d.k]?=some none){k:Nat}{e:cx}(hk:M[k]?=some (some e)):(dI x D M)[k]?=some (some e):=by
 rw[s9 fun d hd _ e'=>?_]
 ·exact hk
 ·have:=h d hd;rw[e',hk]at this;cases this
theorem CH{x:Nat→Bool}{D:List dc}{M:aJ}{d:dc}(hd:d∈D)(hn:(D.map (·.i)).Nodup)(hk:(D.map (·.k)).Nodup):dI (gW x d.i) D M=(dI x D M).set d.k (GO d):=by
 induction D with
 | nil=>cases hd
 | cons c D ih =>
  simp only[ak3,al0]at hn hk;simp only[dI];rcases alF.1 hd with rfl | hd
  ·have hnot:∀e∈D,e.i≠d.i:=fun e he h=>hn.1 (al1.2 ⟨e,he,h⟩);have hsame:dI (gW x d.i) D M=dI x D M:=by
    clear ih hn hk
    induction D with
    | nil=>rfl
    | cons e D ih' =>
     simp only[dI];rw[ih' (by simp) fun e' he'=>hnot e' (by simp[he'])];have:gW x d.i e.i=x e.i:=by simp[gW,hnot e (by simp)]
     rw[this]
   rw[hsame,if_pos (by simp[gW])];split
   ·simp
   ·rfl
  ·have hne:c.i≠d.i:=fun h=>hn.1 (al1.2 ⟨d,hd,h.symm⟩);have hnk:c.k≠d.k:=fun h=>hk.1 (al1.2 ⟨d,hd,h.symm⟩);have:gW x d.i c.i=x c.i:=by simp[gW,hne]
   rw[this,ih hd hn.2 hk.2];split
   ·rw[List.set_comm _ _ hnk.symm]
   ·rfl
theorem cv.JV(h:cv C β H M w){k:Nat}(hk0:M[k]?=some none)(hb0:β k=none){cs:Array Value}{T:TypeId}{s:Nat}{es:List SV}{vs:List Value}(hd:aU β H s es vs)(hl:vs.length≤cs.size)
  (hc:∀i,i<vs.length→cs[i]?=vs[i]?) :
  cv C (β.dS k (some ⟨w.heap.size,cs.size,s⟩)) H (M.set k (some ⟨s,es,false⟩)) (w.alloc (.cells cs T)):=by
 have up:∀j d,β j=some d→(β.dS k (some ⟨w.heap.size,cs.size,s⟩)) j=some d:=fun j d hj=>by
  simp only[bU.dS];rw[if_neg];exact hj;intro e;subst e;rw[hb0]at hj;cases hj
 have hkl:k<M.length:=by
  rcases Nat.lt_or_ge k M.length with h' | h'
  ·exact h'
  ·rw[akT h']at hk0;cases hk0
 have cases':∀{j:Nat} {e:cx},(M.set k (some ⟨s,es,false⟩))[j]?=some (some e)→(j≠k∧M[j]?=some (some e))∨(j=k∧e=⟨s,es,false⟩):=fun{j e} hj=>by
  by_cases ej:j=k
  ·subst ej;rw[List.getElem?_set_self hkl]at hj;simp only[akR]at hj;exact .inr ⟨rfl,hj.symm⟩
  ·rw[alo (Ne.symm ej)]at hj;exact .inl ⟨ej,hj⟩
 exact{
  os:=h.os,tape:=h.tape,output:=h.output
  size:=by have:=h.size;simp;omega
  frame:=fun b hb hx=>by rw[heap_alloc_old (by have:=h.size;omega)];exact h.frame b hb hx
  ext:=h.ext,new:=h.new
  inv:=fun b cs' hb=>by obtain⟨T',z,h'⟩:=h.inv b cs' hb;exact⟨T',z,by rw[heap_alloc_old (gy h')];exact h'⟩
  db:=fun j e hj=>by
   rcases cases' hj with⟨hne,hj'⟩ | ⟨rfl,rfl⟩
   ·exact(h.db j e hj').up up (fun _ _ h=>h) (fun d hd'=>heap_alloc_old (h.lt hj' hd'))
   ·exact .inr (.inl ⟨_,cs,T,vs,by simp[bU.dS];rfl,rfl,heap_alloc_new,rfl,aU.mono (fun _ _ h=>h) _ _ _ (fun k d _=>up k d) hd,hl,hc,fun hf=>by cases hf⟩)
  own:=fun j e d hj hd'=>by
   rcases cases' hj with⟨hne,hj'⟩ | ⟨rfl,rfl⟩
   ·simp only[bU.dS]at hd';rw[if_neg hne]at hd';exact h.own j e d hj' hd'
   ·simp only[bU.dS,if_true,akR]at hd';subst hd';refine⟨fun _=>?_,.inl h.size⟩;cases hH:H w.heap.size with
    | none=>rfl
    | some cs'=>have:=h.az hH;omega
  inj:=fun j j' e e' d d' hj hj' hd1 hd2 hb=>by
   rcases cases' hj with⟨hn1,hk1⟩ | ⟨rfl,rfl⟩<;>rcases cases' hj' with⟨hn2,hk2⟩ | ⟨rfl,rfl⟩
   ·simp only[bU.dS]at hd1 hd2;rw[if_neg hn1]at hd1;rw[if_neg hn2]at hd2;exact h.inj j j' e e' d d' hk1 hk2 hd1 hd2 hb
   ·simp only[bU.dS]at hd1 hd2;rw[if_neg hn1]at hd1;simp only[if_true,akR]at hd2;subst hd2;have:=h.lt hk1 hd1;simp only at hb;omega
   ·simp only[bU.dS]at hd1 hd2;rw[if_neg hn2]at hd2;simp only[if_true,akR]at hd1;subst hd1;have:=h.lt hk2 hd2;simp only at hb;omega
   ·rfl
  fresh:=fun j hj=>by
   simp only[List.length_set]at hj;simp only[bU.dS];rw[if_neg (by omega)];exact h.fresh j hj
  fO:=fun j d hj hd=>up j d (h.fO j d hj hd)
  eN:=h.eN }
theorem cv.sub{M':aJ}(h:cv C β H M w)(hl:M'.length=M.length)(hs:∀(k:Nat) (e:cx),M'[k]?=some (some e)→M[k]?=some (some e)):cv C β H M' w :=
 ⟨h.os,h.tape,h.output,h.size,h.frame,h.ext,h.new,h.inv,fun k e hk=>h.db k e (hs k e hk),fun k e d hk=>h.own k e d (hs k e hk),fun k k' e e' d d' hk hk'=>h.inj k k' e e' d d' (hs k e hk) (hs k' e' hk'),fun k hk=>h.fresh k (by omega),h.fO,h.eN⟩
structure ZS(C:Ctx)(n:Nat)(fr:List (Nat × SV))(M:aJ)(D:List dc)(x:Nat→Bool)(β:bU)(H:Hp)(a:Act)(w:World):Prop where
 F:gQ β H n fr a
 W:cv C β H (dI x D M) w
 S:∀d∈D,x d.i=true→∃v,a.tmps[d.t]?=some v∧Den β H (.ptr d.k 0 0) v
 N:∀d∈D,x d.i=false→β d.k=none
structure m9(P:Program)(ops:Array Oper)(n:Nat)(fr:List (Nat × SV))(M:aJ)(D:List dc):Prop where
 o:∀d∈D,∃T ty p af,ops[d.i]?=some ⟨some d.t,.alloc T,ty,p,af,none⟩∧aA P T=some d.ti
 ni:(D.map (·.i)).Nodup
 nk:(D.map (·.k)).Nodup
 M:∀d∈D,M[d.k]?=some none
 t:∀d∈D,d.t<n
 nt:(D.map (·.t)).Nodup
 fr:∀d∈D,get fr d.t=none
def m9.fB(D:List dc):List (Nat × Nat):=D.map fun d=>(d.i,d.t)
theorem lU{α:Type}(f:α→Nat):∀{D:List α},(D.map f).Nodup→∀{a b:α},a∈D→b∈D→f a=f b→a=b
 | [],_,_,_,h,_,_=>by cases h
 | c::D,hn,a,b,ha,hb,e=>by
  simp only[ak3,al0]at hn;obtain⟨h1,h2⟩:=hn;rcases alF.1 ha with ea | ha'<;>rcases alF.1 hb with eb | hb'
  ·rw[ea,eb]
  ·subst ea;exact absurd (al1.2 ⟨b,hb',e.symm⟩) h1
  ·subst eb;exact absurd (al1.2 ⟨a,ha',e⟩) h1
  ·exact lU f h2 ha' hb' e
theorem iZ{fr:List (Nat × SV)}{t:Nat}{d:Option Tmp}{x:Option SV}(h:get fr t=none)(hd:∀s,d=some s→s≠t):get (cX d x fr) t=none:=by
 cases d with
 | none=>cases x<;>exact h
 | some s=>cases x with
  | none =>
   cases hg:get (cX (some s) none fr) t with
   | none=>rfl
   | some y=>rw[(jy hg).2]at h;cases h
  | some y=>simp only[cX,get];rw[if_neg (hd s rfl)];exact h
theorem iP{fr:List (Nat × SV)}{t s:Nat}(h:get fr t=none∨t=s):get (del fr s) t=none:=by
 cases hg:get (del fr s) t with
 | none=>rfl
 | some y =>
  obtain⟨h1,h2⟩:=jy hg;rcases h with h | h
  ·rw[h]at h2;cases h2
  ·exact absurd h h1
theorem ZS.adC{n:Nat}{fr:List (Nat × SV)}{D:List dc}{x:Nat→Bool}(hD:m9 P ops n fr M D)(h:ZS C n fr M D x β H a w){d:dc}(hd:d∈D)(hx:x d.i=false) :
  ∃o v w' bd,ops[d.i]?=some o∧o.guard=none∧(execOp a.eval o).run P w=.ok (.value v) w'∧bd.b=w.heap.size∧w.heap.size≤w'.heap.size∧(∀b,b<w.heap.size→w'.heap[b]?=w.heap[b]?) ∧
   ZS C n fr M D (gW x d.i) (β.dS d.k (some bd)) H (a.put o.dst v) w':=by
 obtain⟨T,ty,p,af,ho,hti⟩:=hD.o d hd;obtain⟨i1,d1,z1,ht⟩:=aC hti;obtain⟨v,hv1,hv2,hv3⟩:=o8 ht β H;have hnone:(dI x D M)[d.k]?=some none:=by
  rw[s9 fun e he hxe hk=>?_]
  ·exact hD.M d hd
  ·have:e=d:=lU _ hD.nk he hd hk;rw[this,hx]at hxe;cases hxe
 have hW:=h.W.JV (T:=T) (cs:=z1.cells) (s:=d.ti.size) (es:=[d.ti.cK]) (vs:=v.cells.toList) hnone (h.N d hd hx) (by simp only[aU];exact⟨v,[],by simp,by rw[hv2,hv3],hv1,rfl⟩) (by simp[hv2]) (fun q hq=>by simp[hv2]);have up:∀j e,β j=some e→(β.dS d.k (some ⟨w.heap.size,z1.cells.size,d.ti.size⟩)) j=some e:=fun j e hj=>by
  simp only[bU.dS];rw[if_neg];exact hj;intro e';subst e';rw[h.N d hd hx]at hj;cases hj
 have htn:=hD.t d hd;refine⟨_,.pointer (some ⟨w.heap.size,0,none⟩),w.alloc (.cells z1.cells T),⟨w.heap.size,z1.cells.size,d.ti.size⟩,ho,rfl,?_,rfl,by simp,fun b hb=>heap_alloc_old hb,?_,?_,fun e he hxe=>?_,fun e he hxe=>?_⟩
 ·simp[execOp,Instr.alloc,ht.j6,newVar,newRow]
 ·have:=(h.F.mono up (fun _ _ h=>h)).skip d.t (.pointer (some ⟨w.heap.size,0,none⟩));refine this.sub fun t' y hg=>?_;have hne:t'≠d.t:=fun e=>by rw[e,hD.fr d hd]at hg;cases hg
  have key:∀l:List (Nat × SV),get (del l d.t) t'=get l t':=fun l=>by
   induction l with
   | nil=>rfl
   | cons q l ih =>
    obtain⟨s,z⟩:=q;simp only[del,alX];by_cases e:s=d.t
    ·subst e;simp only[beq_self_eq_true,Bool.not_true,Bool.false_eq_true,if_false,get];rw[if_neg (Ne.symm hne)];exact ih
    ·simp only[beq_iff_eq,e,alZ,beq_eq_false_iff_ne,ne_eq,not_false_eq_true,if_true,get];split
     ·rfl
     ·exact ih
  rw[key];exact hg
 ·rw[CH hd hD.ni hD.nk];exact hW
 ·by_cases e1:e.i=d.i
  ·have:e=d:=lU _ hD.ni he hd e1;subst this;refine⟨_,by simp[Act.put,h.F.2.1,htn];rfl,?_⟩;simp only[Den];exact⟨_,by simp[bU.dS];rfl,by simp⟩
  ·have hx':x e.i=true:=by simpa[gW,e1]using hxe
   obtain⟨v',hv',hden⟩:=h.S e he hx';have hne:d.t≠e.t:=fun h'=>e1 (by rw[lU _ hD.nt he hd h'.symm]);refine⟨v',by simp only[Act.put];rw[akS hne];exact hv',hden.up up (fun _ _ h=>h)⟩
 ·have e1:e.i≠d.i:=fun h'=>by simp[gW,h']at hxe
  have hx':x e.i=false:=by simpa[gW,e1]using hxe
  have hne:e.k≠d.k:=fun h'=>e1 (by rw[lU _ hD.nk he hd h']);simp only[bU.dS];rw[if_neg hne];exact h.N e he hx'
def pJ(x:Nat→Bool)(D:List dc):Nat:=(D.filter fun d=>!x d.i).length
theorem rD{x:Nat→Bool}{D:List dc}{d:dc}(hd:d∈D)(hn:(D.map (·.i)).Nodup)(hx:x d.i=false):pJ x D=pJ (gW x d.i) D+1:=by
 induction D with
 | nil=>cases hd
 | cons c D ih =>
  simp only[ak3,al0]at hn;simp only[pJ,alX];rcases alF.1 hd with rfl | hd
  ·have hsame:(D.filter fun e=>!gW x d.i e.i)=D.filter fun e=>!x e.i:=al2 fun e he=>by
    have:e.i≠d.i:=fun h=>hn.1 (al1.2 ⟨e,he,h⟩);simp[gW,this]
   rw[if_pos (by simp[hx]),if_neg (by simp[gW]),hsame];rfl
  ·have hne:c.i≠d.i:=fun h=>hn.1 (al1.2 ⟨d,hd,h.symm⟩);have:=ih hd hn.2;simp only[pJ]at this;have e:gW x d.i c.i=x c.i:=by simp[gW,hne]
   rw[e];split<;>simp[this]
theorem AA{x:Nat→Bool}{D:List dc}(h:∀d∈D,x d.i=true):pJ x D=0:=by
 simp only[pJ,List.length_eq_zero_iff,List.filter_eq_nil_iff];intro d hd;simp[h d hd]
theorem J3{k:Nat}{bd:Bd}{s s':Nat}{ks:List Nat}{b:Nat}(hs:s≤s')(hb:bd.b=s)(h:Wb (β.dS k (some bd)) s' ks b):Wb β s ks b:=by
 obtain⟨h1,h2⟩:=h;refine⟨h1,?_⟩;rcases h2 with h2 | h2 | ⟨j,h3,d,h4,h5⟩
 ·exact .inl h2
 ·exact .inr (.inl (by omega))
 ·by_cases e:j=k
  ·subst e;simp only[bU.dS,if_true,akR]at h4;subst h4;exact .inr (.inl (by omega))
  ·simp only[bU.dS]at h4;rw[if_neg e]at h4;exact .inr (.inr ⟨j,h3,d,h4,h5⟩)
def ZJ(P:Program)(C:Ctx)(ops:Array Oper)(pl:Pz)(D:List dc)(st:St)(Q:aX):Prop :=
 Region.noSelect ops=true→∀L,k7 ops (m9.fB D) L pl=true→m9 P ops st.n st.fr st.M D→∀(m:Nat) (x:Nat→Bool) β H a w,pJ x D=m→ZS C st.n st.fr st.M D x β H a w →
  pf P ops (QQ C Q) (fun j w1 w2=>GG H (Wb β w.heap.size (pl.Y j)) w1 w2) (pl.len+m) (fk x (D.map (·.i)) L) a w
theorem rn{pl:Pz}{D:List dc}(hD:m9 P ops st.n st.fr st.M D)
  (step:∀(x:Nat→Bool) β H a w,ZS C st.n st.fr st.M D x β H a w →
   (∀d∈D,x d.i=false→wpOp P ops (QQ C Q) d.i (fun a' w'=>GG H (Wb β w.heap.size (pl.Y d.i)) w w'∧pf P ops (QQ C Q) (fun j w1 w2=>GG H (Wb β w.heap.size (pl.Y j)) w1 w2) (pl.len+pJ x D - 1) ((fk x (D.map (·.i)) L).setIfInBounds d.i true) a' w') a w) →
   pf P ops (QQ C Q) (fun j w1 w2=>GG H (Wb β w.heap.size (pl.Y j)) w1 w2) (pl.len+pJ x D) (fk x (D.map (·.i)) L) a w) :
  ∀(m:Nat) (x:Nat→Bool) β H a w,pJ x D=m→ZS C st.n st.fr st.M D x β H a w→pf P ops (QQ C Q) (fun j w1 w2=>GG H (Wb β w.heap.size (pl.Y j)) w1 w2) (pl.len+m) (fk x (D.map (·.i)) L) a w:=by
 intro m
 induction m with
 | zero =>
  intro x β H a w hm hZ;have h:=step x β H a w hZ (fun d hd hx=>by have:=rD hd hD.ni hx;omega);rw[hm]at h;exact h
 | succ m ih =>
  intro x β H a w hm hZ;have h:=step x β H a w hZ (fun d hd hx=>?_)
  ·rw[hm]at h;exact h
  ·obtain⟨o,v,w',bd,h1,h2,h3,h4,h5,h6,h7⟩:=hZ.adC hD hd hx;have hc:=rD hd hD.ni hx;have hih:=ih (gW x d.i) _ H _ w' (by omega) h7;have hset:fk (gW x d.i) (D.map (·.i)) L=(fk x (D.map (·.i)) L).setIfInBounds d.i true:=by
    rw[Fo,if_pos (al1.2 ⟨d,hd,rfl⟩)]
   rw[hset]at hih;unfold wpOp;simp only[h1];rw[if_pos (by simp[Region.wanted,h2])];left;simp only[Oper.wp,h3,Oper.upon];refine⟨⟨⟨h5,fun b hb _=>h6 b hb⟩,fun b cs hb=>?_⟩,?_⟩
   ·obtain⟨T,z,hz⟩:=hZ.W.inv b cs hb;exact⟨T,z,by rw[h6 b (gy hz)];exact hz⟩
   ·have e:pl.len+pJ x D - 1=pl.len+m:=by omega
    rw[e];exact kx _ _ _ _ (fun j w1 w2 _ hr=>⟨hr.1.mono fun b _ hb=>J3 h5 h4 hb,hr.2⟩) hih
theorem pF{fr:List (Nat × SV)}{n s:Nat}{d:Option Nat}(h:get fr s=none)(hd:∀t,d=some t→t≠s):get (eO n d fr) s=none:=by
 cases d with
 | none=>exact h
 | some t =>
  simp only[eO];split
  ·simp only[get];rw[if_neg (hd t rfl)];exact h
  ·exact iP (.inl h)
theorem yV{o:Oper}{yes no:St→Prop}(h:gd ops o st yes no)(hF:gQ β H st.n st.fr a) :
  (Region.wanted o (yielded ops a.tmps)=true∧∃fr,(∀s,get st.fr s=none→get fr s=none)∧gQ β H st.n fr a∧yes ⟨st.n,fr,st.M⟩) ∨
   (Region.wanted o (yielded ops a.tmps)=false∧∃fr,(∀s,get st.fr s=none→(∀t,o.dst=some t→t≠s)→get fr s=none)∧gQ β H st.n fr (a.put o.dst undef)∧no ⟨st.n,fr,st.M⟩):=by
 unfold gd at h;split at h
 ·rename_i hg;exact .inl ⟨by simp[Region.wanted,hg],_,fun _ h=>h,hF,h⟩
 ·rename_i j b hg;split at h
  ·rename_i t ht;split at h
   ·rename_i c hc;obtain⟨v,hv,hden⟩:=hF.2.2 t _ hc;simp only[Den]at hden;obtain⟨rfl, -⟩:=hden;have hy:yielded ops a.tmps j=some c:=by
     unfold yielded;simp only[nS]at ht;rw[ht];simp[hv]
    have hsub:∀b',c=b'→gQ β H st.n ((t,.val (.bool b'))::st.fr) a:=fun b' hb=>by
     subst hb;refine hF.sub fun t' x' hg'=>?_;simp only[get]at hg';split at hg'
     ·rename_i e;subst e;simp only[akR]at hg';subst hg';exact hc
     ·exact hg'
    have hn:∀(b':Bool) s,get st.fr s=none→get ((t,.val (.bool b'))::st.fr) s=none:=fun b' s hs=>by
     simp only[get];rw[if_neg];exact hs;intro e;subst e;rw[hs]at hc;cases hc
    by_cases hcb:c=b
    ·exact .inl ⟨by simp[Region.wanted,hg,hy,hcb],_,hn b,hsub b hcb,h.1 hcb⟩
    ·have hcb':c=!b:=by cases c<;>cases b<;>simp_all
     exact .inr ⟨by simp[Region.wanted,hg,hy,hcb],_,fun s hs hd=>pF (hn _ s hs) hd,(hsub _ hcb').eO o.dst,h.2 hcb'⟩
   ·rename_i hc;obtain⟨v,hv,hden⟩:=hF.2.2 t _ hc;obtain rfl:=uw hden;have hy:yielded ops a.tmps j=none:=by
     unfold yielded;simp only[nS]at ht;rw[ht];simp[hv]
    exact .inr ⟨by simp[Region.wanted,hg,hy],_,fun s hs hd=>pF hs hd,hF.eO o.dst,h⟩
   ·exact h.elim
  ·exact h.elim
theorem m9.frame{n:Nat}{fr fr':List (Nat × SV)}{D:List dc}(h:m9 P ops n fr M D)(hf:∀d∈D,get fr' d.t=none):m9 P ops n fr' M D:=⟨h.o,h.ni,h.nk,h.M,h.t,h.nt,hf⟩
theorem kG{D:List dc}{i:Nat}{o:Oper}(ho:ops[i]?=some o)(h:CQ ops i (m9.fB D)=true):∀d∈D,∀s,o.dst=some s→s≠d.t:=fun d hd s hs e=>by
 simp only[CQ,ho,hs,alU,m9.fB,al1,bne_iff_ne,ne_eq,forall_exists_index,and_imp]at h;exact h _ d hd rfl e.symm
theorem ZS.put{n:Nat}{fr fr':List (Nat × SV)}{D:List dc}{x:Nat→Bool}{d0:Option Tmp}{v:Value}(h:ZS C n fr M D x β H a w)(hF:gQ β H n fr' (a.put d0 v))(hd:∀d∈D,∀s,d0=some s→s≠d.t):ZS C n fr' M D x β H (a.put d0 v) w :=
 ⟨hF,h.W,fun d hd' hx=>by
  obtain⟨v',hv',hden⟩:=h.S d hd' hx;refine⟨v',?_,hden⟩;cases d0 with
  | none=>exact hv'
  | some s=>simp only[Act.put];rw[akS (hd d hd' s rfl)];exact hv',h.N⟩
theorem ZS.Uf{n:Nat}{fr:List (Nat × SV)}{D:List dc}{x:Nat→Bool}(hD:m9 P ops n fr M D)(h:ZS C n fr M D x β H a w):cv C β H M w :=
 h.W.sub (by rw[kj]) fun k e hk=>xV hD.M hk
theorem sX{x y:Nat→Bool}{D:List dc}(h:∀d∈D,x d.i=y d.i)(M:aJ):dI x D M=dI y D M:=by
 induction D with
 | nil=>rfl
 | cons d D ih=>simp only[dI];rw[ih fun e he=>h e (by simp[he]),h d (by simp)]
theorem r8{x:Nat→Bool}{D:List dc}(h:∀d∈D,x d.i=true)(M:aJ):dI x D M=jk D M:=by
 induction D with
 | nil=>rfl
 | cons d D ih=>simp only[dI,jk];rw[ih fun e he=>h e (by simp[he]),if_pos (h d (by simp))]
theorem wj{x:Nat→Bool}{D:List dc}{c:dc}(h:x c.i=false)(M:aJ):dI x (D++[c]) M=dI x D M:=by
 induction D with
 | nil=>simp[dI,h]
 | cons d D ih=>simp only[aly,dI,ih]
theorem xF{x:Nat→Bool}{D:List dc}{M:aJ}(h:∀d∈D,d.k<M.length):dI x D (M++[none])=dI x D M++[none]:=by
 induction D with
 | nil=>rfl
 | cons d D ih =>
  simp only[dI];rw[ih fun e he=>h e (by simp[he])];split
  ·rw[List.set_append_left _ _ (by rw[kj];exact h d (by simp))]
  ·rfl
theorem mS{x y:Nat→Bool}{D:List Nat}(h:∀i∈D,x i=y i)(L:Array Bool):fk x D L=fk y D L:=by
 induction D with
 | nil=>rfl
 | cons d D ih=>simp only[fk];rw[ih fun e he=>h e (by simp[he]),h d (by simp)]
theorem xX{x:Nat→Bool}{D:List Nat}{c:Nat}(h:x c=false)(L:Array Bool):fk x (D++[c]) L=fk x D L:=by
 induction D with
 | nil=>simp[fk,h]
 | cons d D ih=>simp only[aly,fk,ih]
theorem cv.grow(h:cv C β H M w):cv C β H (M++[none]) w :=
 have e:∀{k:Nat} {e:cx},(M++[none])[k]?=some (some e)→M[k]?=some (some e):=fun{k e} hk=>by
  rcases getElem?_snoc hk with⟨_,h'⟩ | ⟨_,h'⟩
  ·exact h'
  ·cases h'
 ⟨h.os,h.tape,h.output,h.size,h.frame,h.ext,h.new,h.inv,fun k e' hk=>h.db k e' (e hk),fun k e' d hk=>h.own k e' d (e hk),fun k k' e1 e2 d d' hk hk'=>h.inj k k' e1 e2 d d' (e hk) (e hk'),
  fun k hk=>h.fresh k (by simp at hk;omega),h.fO,h.eN⟩
theorem sr{n:Nat}{fr:List (Nat × SV)}(hF:gQ β H n fr a):∀(D:List dc),(∀d∈D,∃v,a.tmps[d.t]?=some v∧Den β H (.ptr d.k 0 0) v)→gQ β H n (lG D fr) a
 | [],_=>hF
 | d::D,h=>by
  have ih:=sr hF D fun e he=>h e (by simp[he]);refine⟨ih.1,ih.2.1,fun t y hg=>?_⟩;simp only[lG,get]at hg;split at hg
  ·rename_i e;subst e;simp only[akR]at hg;subst hg;exact h d (by simp)
  ·exact ih.2.2 t y hg
theorem vJ{R:aX}(np:∀c st,¬R (.panic c) st):∀(pl:Pz) (D:List dc) (st:St) {Q QJ:aX},(∀e st,Q e st→R e st)→(∀e st,QJ e st→R e st)→tG P C ops D pl st Q QJ→ZJ P C ops pl D st R
 | .d i r,D,st,Q,QJ,hQ,hJ,h=>fun hns L hL hD m x β H a w hm hZ=>by
  simp only[tG]at h;split at h
  ·rename_i t T ty p af ho;split at h
   ·rename_i ti hti;obtain⟨htn,h⟩:=h;simp only[k7,ho,alL,alZ]at hL;obtain⟨h1,h2,h3⟩:=hL;have hni:∀d∈D,d.i≠i:=fun d hd e=>by
     have:(m9.fB D).any (fun d=>d.1==i)=true:=by
      simp only[m9.fB,al3,al1];exact⟨(d.i,d.t),⟨d,hd,rfl⟩,by simp[e]⟩
     rw[this]at h1;cases h1
    have hkl:∀d∈D,d.k<st.M.length:=fun d hd=>by
     have:=hD.M d hd;rcases Nat.lt_or_ge d.k st.M.length with h' | h'
     ·exact h'
     ·rw[akT h']at this;cases this
    have hntt:∀d∈D,d.t≠t:=fun d hd e=>by
     have:(m9.fB D).any (fun d=>d.2==t)=true:=by
      simp only[m9.fB,al3,al1];exact⟨(d.i,d.t),⟨d,hd,rfl⟩,by simp[e]⟩
     rw[this]at h2;cases h2
    have hD':m9 P ops st.n (del st.fr t) (st.M++[none]) (D++[⟨i,t,st.M.length,ti⟩]):=by
     refine⟨fun d hd=>?_,?_,?_,fun d hd=>?_,fun d hd=>?_,?_,fun d hd=>?_⟩
     ·rcases alH.1 hd with hd | hd
      ·exact hD.o d hd
      ·simp only[alG]at hd;subst hd;exact⟨T,ty,p,af,ho,hti⟩
     ·rw[al4,al5];exact⟨hD.ni,by simp,fun a ha b hb=>by
       obtain⟨d,hd,rfl⟩:=al1.1 ha;simp only[ak3,al6,alG]at hb;subst hb;exact hni d hd⟩
     ·rw[al4,al5];exact⟨hD.nk,by simp,fun a ha b hb=>by
       obtain⟨d,hd,rfl⟩:=al1.1 ha;simp only[ak3,al6,alG]at hb;subst hb;have:=hkl d hd;omega⟩
     ·rcases alH.1 hd with hd | hd
      ·rw[List.getElem?_append_left (hkl d hd)];exact hD.M d hd
      ·simp only[alG]at hd;subst hd;simp
     ·rcases alH.1 hd with hd | hd
      ·exact hD.t d hd
      ·simp only[alG]at hd;subst hd;exact htn
     ·rw[al4,al5];exact⟨hD.nt,by simp,fun a ha b hb=>by
       obtain⟨d,hd,rfl⟩:=al1.1 ha;simp only[ak3,al6,alG]at hb;subst hb;exact hntt d hd⟩
     ·rcases alH.1 hd with hd | hd
      ·exact iP (.inl (hD.fr d hd))
      ·simp only[alG]at hd;subst hd;exact iP (.inr rfl)
    obtain⟨y,hy⟩:∃y:Nat→Bool,y=fun j=>x j&&!(j==i):=⟨_,rfl⟩;have hyD:∀d∈D,y d.i=x d.i:=fun d hd=>by simp[hy,hni d hd]
    have hyi:y i=false:=by simp[hy]
    have hb:dI y (D++[⟨i,t,st.M.length,ti⟩]) (st.M++[none])=dI x D st.M++[none]:=by
     rw[wj hyi,xF hkl,sX hyD]
    have hZ':ZS C st.n (del st.fr t) (st.M++[none]) (D++[⟨i,t,st.M.length,ti⟩]) y β H a w:=by
     refine⟨hZ.F.sub fun t' z hg=>(jy hg).2,by rw[hb];exact hZ.W.grow,fun d hd hx=>?_,fun d hd hx=>?_⟩
     ·rcases alH.1 hd with hd | hd
      ·exact hZ.S d hd (by rw[←hyD d hd];exact hx)
      ·simp only[alG]at hd;subst hd;rw[hyi]at hx;cases hx
     ·rcases alH.1 hd with hd | hd
      ·exact hZ.N d hd (by rw[←hyD d hd];exact hx)
      ·simp only[alG]at hd;subst hd;exact hZ.W.fresh _ (by rw[kj];exact Nat.le_refl _)
    have hcnt:pJ y (D++[⟨i,t,st.M.length,ti⟩])=m+1:=by
     simp only[pJ,List.filter_append,List.length_append];have e1:(D.filter fun d=>!y d.i)=D.filter fun d=>!x d.i:=al2 fun d hd=>by rw[hyD d hd]
     rw[e1];simp only[pJ]at hm;simp[hm,hyi]
    have hr:=vJ np r _ _ hQ hJ h hns L (by simpa[m9.fB]using h3) hD' (m+1) y β H a w hcnt hZ';have hset:fk y ((D++[(⟨i,t,st.M.length,ti⟩:dc)]).map (·.i)) L=fk x (D.map (·.i)) L:=by
     rw[al4,ak3,al6,xX hyi];exact mS (fun j hj=>by obtain⟨d,hd,rfl⟩:=al1.1 hj;exact hyD d hd) L
    rw[hset]at hr;have e:(Pz.d i r).len+m=r.len+(m+1):=by simp only[Pz.len];omega
    rw[e];exact hr
   ·exact h.elim
  ·exact h.elim
 | .b r,D,st,Q,QJ,hQ,hJ,h=>fun hns L hL hD=>by
  simp only[tG]at h;simp only[k7,alL]at hL;refine rn hD fun x β H a w hZ hcome=>?_;obtain⟨q,hq1,hq2⟩:=iD x _ _ _ hL.1;have hmap:(m9.fB D).map (·.1)=D.map (·.i):=by simp[m9.fB]
  rw[hmap]at hq1 hq2 hL;by_cases hall:∀d∈D,x d.i=true
  ·rw[AA hall];have hset:fk x (D.map (·.i)) L=fk (fun _=>true) (D.map (·.i)) L:=mS (fun j hj=>by obtain⟨d,hd,rfl⟩:=al1.1 hj;exact hall d hd) L;rw[hset];have hW:=hZ.W;rw[r8 hall]at hW;exact dQ np r _ hQ hJ h hns _ hL.2 β H a w (sr hZ.F D fun d hd=>hZ.S d hd (hall d hd)) hW
  ·obtain⟨d0,hd0,hx0⟩:∃d∈D,x d.i=false:=by
    refine Classical.byContradiction fun hno=>hall fun d hd=>?_;cases hx:x d.i with
    | true=>rfl
    | false=>exact absurd ⟨d,hd,hx⟩ hno
   have hne:q.isEmpty=false:=by
    cases q with
    | nil=>have:=(hq2 d0.i).2 (.inr ⟨al1.2 ⟨d0,hd0,rfl⟩,hx0⟩);exact absurd this (by simp)
    | cons _ _=>rfl
   rw[hne]at hq1;simp only[Bool.false_or,alL,alZ,alU,alQ]at hq1;have hc:=rD hd0 hD.ni hx0;have e:(Pz.b r).len+pJ x D=((Pz.b r).len+pJ x D - 1)+1:=by omega
   rw[e];refine⟨fun h0=>(by rw[h0]at hq1;simp at hq1),fun j hj=>?_⟩;rcases(hq2 j).1 (hq1.2 j hj)with h' | ⟨h',hx'⟩
   ·cases h'
   ·obtain⟨d,hd,rfl⟩:=al1.1 h';exact hcome d hd hx'
 | .p i r,D,st,Q,QJ,hQ,hJ,h=>fun hns L hL hD=>by
  simp only[tG]at h;split at h
  ·exact fun _ _ _ _ _ _ _ _=>h.elim
  ·rename_i o ho;simp only[k7,alL,alZ]at hL;obtain⟨hdst, -,hall,hr⟩:=hL;refine rn hD fun x β H a w hZ hcome=>?_;obtain⟨q,hq1,hq2⟩:=iD x _ _ _ hall;have hmap:(m9.fB D).map (·.1)=D.map (·.i):=by simp[m9.fB]
   rw[hmap]at hq1 hq2;simp only[alL,alU,alQ,alV,beq_iff_eq]at hq1;have e:(Pz.p i r).len+pJ x D=((Pz.p i r).len+pJ x D - 1)+1:=by simp only[Pz.len];omega
   rw[e];refine⟨fun h0=>(by rw[h0]at hq1;simp at hq1),fun j hj=>?_⟩;have done:j∈q→wpOp P ops (QQ C R) j (fun a' w'=>GG H (Wb β w.heap.size ((Pz.p i r).Y j)) w w'∧pf P ops (QQ C R) (fun j w1 w2=>GG H (Wb β w.heap.size ((Pz.p i r).Y j)) w1 w2) ((Pz.p i r).len+pJ x D - 1) ((fk x (D.map (·.i)) L).setIfInBounds j true) a' w') a w:=fun hjq=>by
    rcases(hq2 j).1 hjq with h' | ⟨h',hx'⟩
    ·cases h'
    ·obtain⟨d,hd,rfl⟩:=al1.1 h';exact hcome d hd hx'
   rcases hq1.2 j hj with rfl | hjq
   ·have hlen:(Pz.p j r).len+pJ x D - 1=r.len+pJ x D:=by simp only[Pz.len];omega
    rw[hlen];unfold wpOp;simp only[ho];rcases yV h hZ.F with⟨hw,fr,hfr,hF',hyes⟩ | ⟨hw,fr,hfr,hF',hno⟩
    ·rw[if_pos hw];left;unfold l4 at hyes;split at hyes
     ·rename_i f args ts hop;split at hyes
      ·rename_i xs hxs;obtain⟨hf,hdk,hks,args',Φ,hsub,hpure,hk⟩:=hyes;have hrun:(execOp a.eval o).run P w=.ok (.enter f (args.map a.eval)) w:=by
        obtain⟨dst,op,type,pos,after,guard⟩:=o;simp only at hop;subst hop;simp only[execOp,resolve,Act.eval,Deferred.ofValue,Sem.run_bind,Sem.run_pure,Result.andThen_ok,invoke];simpa using hf (args.map a.eval) w
       simp only[Oper.wp,hrun,Oper.upon];have hvals:=iV hF' _ _ hxs;have hWM:=hZ.Uf hD;have hvals':=fD hWM hsub ⟨fun k e _ hk=>by rw[hks]at hk;cases hk⟩ hvals;have hcall:=hpure H w _ hWM.zw hvals';rw[show(args.toList.map a.eval).toArray=args.map a.eval from by apply Array.ext';simp]at hcall;refine Calls.mono hcall ?_;rintro e' w' ⟨H',v,z,rfl,g1,g2,g3,g4,g5,g6⟩;have hF2:gQ β H' st.n (cX o.dst (some z) fr) (a.put o.dst v):=(hF'.mono (fun _ _ h=>h) g3).cX hdk (g1.up (fun k d hd=>by simp[lK]at hd) (fun _ _ h=>h));have hslot:=kG ho hdst;have hZ2:ZS C st.n (cX o.dst (some z) fr) st.M D x β H' (a.put o.dst v) w':=by
        refine⟨hF2,hZ.W.after g6 g3 g4 g5,fun d hd hx=>?_,hZ.N⟩;obtain⟨v',hv',hden⟩:=hZ.S d hd hx;refine⟨v',?_,hden.up (fun _ _ h=>h) g3⟩;cases hd0:o.dst with
        | none=>exact hv'
        | some s=>simp only[Act.put];rw[akS (hslot d hd s hd0)];exact hv'
       have hih:=vJ np r D ⟨st.n,cX o.dst (some z) fr,st.M⟩ hJ hJ (hk z g2) hns _ hr (hD.frame fun d hd=>iZ (hfr _ (hD.fr d hd)) (hslot d hd)) _ x β H' _ w' rfl hZ2;rw[iA]at hih;refine⟨⟨⟨g6.size,fun b hb _=>g6.block b hb⟩,l6.mono (H':=H') g5.1 g3⟩,?_⟩;refine kx _ _ _ _ (fun j' w1 w2 _ hr'=>⟨hr'.1.mono fun b _ hb=>?_,hr'.2.mono g3⟩) hih;obtain⟨b1,b2⟩:=hb;exact⟨b1,b2.imp id (Or.imp (fun h=>Nat.le_trans g6.size h) id)⟩
      ·exact hyes.elim
     ·exact hyes.elim
    ·rw[if_neg (by simp[hw])];have hslot:=kG ho hdst;have hZ2:=hZ.put hF' hslot;have hih:=vJ np r D ⟨st.n,fr,st.M⟩ hQ hJ hno hns _ hr (hD.frame fun d hd=>hfr _ (hD.fr d hd) (hslot d hd)) _ x β H _ w rfl hZ2;rw[iA]at hih;exact⟨⟨RS.tL w,hZ.W.inv⟩,hih⟩
   ·exact done hjq
 | .q i ks r,D,st,Q,QJ,hQ,hJ,h=>fun hns L hL hD m x β H a w hm hZ=>by
  simp only[k7,alL,alZ]at hL;obtain⟨hdst, -,hall,hL⟩:=hL;obtain⟨qq,hq, -⟩:=iD x _ _ _ hall;have hmap:(m9.fB D).map (·.1)=D.map (·.i):=by simp[m9.fB]
  rw[hmap]at hq;have hF:=hZ.F;have hW:=hZ.Uf hD;simp only[tG]at h;split at h
  ·exact h.elim
  ·rename_i o ho;have hslot:=kG ho hdst;simp only[O7,ho,alL]at hq;obtain⟨h1,h2,h3,h4,h5⟩:=hq;simp only[alU,alL,alZ]at h4
   let Dd:Nat→Bool:=fun j=>(HZ ops i).contains j
   let U:Nat→Prop:=fun b=>∃j,j<ops.size∧j≠i∧Dd j=false∧(fk x (D.map (·.i)) L).getD j true=false∧Wb β w.heap.size (r.Y j) b
   have hUk:(∃t x,o.op=.load t x)→∀b,U b→b<w.heap.size→m6∈ks∨∃k∈ks,∃d,β k=some (some d)∧d.b=b:=by
    rintro⟨t',x',hop⟩ b ⟨j,hj1,hj2,hj3,hj4,hw1,hw2⟩ hb;obtain⟨dst,op,type,pos,after,guard⟩:=o;simp only at hop;subst hop;simp only[alU,List.mem_range,alV,beq_iff_eq]at h5;have hks:∀k∈r.Y j,k∈ks:=fun k hk=>by
     rcases h5 j hj1 with h | h | h | h
     ·exact absurd h hj2
     ·rw[hj4]at h;cases h
     ·rw[show(HZ ops i).contains j=false from hj3]at h;cases h
     ·have:=h k hk;simpa using this
    rcases hw2 with hw2 | hw2 | ⟨k,hk,d,hd,hdb⟩
    ·exact .inl (hks _ hw2)
    ·omega
    ·exact .inr ⟨k,hks k hk,d,hd,hdb⟩
   have core:∀v,YieldsIf P ops (fun w'=>RS U w w'∧l6 H w') o v a→(∃fr,(∀d∈D,get fr d.t=none)∧gQ β H st.n fr (a.put o.dst v)∧tG P C ops D r ⟨st.n,fr,st.M⟩ Q QJ)→pf P ops (QQ C R) (fun j w1 w2=>GG H (Wb β w.heap.size ((Pz.q i ks r).Y j)) w1 w2) ((Pz.q i ks r).len+m) (fk x (D.map (·.i)) L) a w:=by
    rintro v hy ⟨fr,hfr,hF',hv⟩;have e:(Pz.q i ks r).len+m=(r.len+m)+1:=by simp only[Pz.len];omega
    rw[e];refine oA (D:=Dd) (S:=fun w'=>RS U w w'∧l6 H w') ho (Region.noSelect_spec hns) (fun c a' w' ⟨st',hp,_⟩=>absurd hp (np c st')) (fun j oj hj hoj=>?_) (fun w1 hs=>⟨RS.tL w1,hs.2⟩) _ _ a w ?_ (fun j hj=>?_) (Region.free_spec ho h2) (by simpa using h3) hy ⟨RS.tL w,hW.inv⟩ ?_
    ·have:=h4 j (by simpa[Dd]using hj);rw[hoj]at this;simp only[Array.any_eq_true',alL,alV,beq_iff_eq]at this;exact this.2
    ·intro j w1 w2 hj1 hj2 hj3 hj4 hs hg;exact⟨hs.1.trans hg.1 fun b _ hb=>⟨j,hj1,hj2,hj3,hj4,hb⟩,hg.2⟩
    ·exact(h4 j (by simpa[Dd]using hj)).1
    ·have hih:=vJ np r D ⟨st.n,fr,st.M⟩ hQ hJ hv hns _ hL (hD.frame hfr) m x β H _ w hm (hZ.put hF' hslot);rw[iA]at hih;exact hih
   rcases yV h hF with⟨hw,fr,hfr,hF',hi,hyes⟩ | ⟨hw,fr,hfr,hF',hno'⟩
   ·obtain⟨c,y,hy,hc,hd,hnx⟩:=mC h1 hi hyes;obtain⟨v,hv1,hv2⟩:=BY (st:=⟨st.n,fr,st.M⟩) hW hF' hy hc hi hUk;exact core v (.inl ⟨hw,hv1⟩) ⟨_,fun d hd'=>iZ (hfr _ (hD.fr d hd')) (hslot d hd'),hF'.cX hd hv2,hnx⟩
   ·exact core undef (.inr ⟨hw,rfl⟩) ⟨fr,fun d hd'=>hfr _ (hD.fr d hd') (hslot d hd'),hF',hno'⟩
theorem aa.nG{id:Nat}(pl:Pz)(hm:P.follows .mixedOrders=true)(hp:(Region.noSelect ops&&(k7 ops [] (Array.replicate ops.size false) pl&&decide (pl.len≤ops.size)))=true)(np:∀c st,¬QJ (.panic c) st)
  (h:tG P C ops [] pl st QJ QJ):aa P C (.region id ops true) st QJ:=by
 simp only[alL,decide_eq_true_eq]at hp;rintro a w ⟨β,H,hF,hW⟩;have hD:m9 P ops st.n st.fr st.M []:=⟨by simp,by simp,by simp,by simp,by simp,by simp,by simp⟩;have hj:=vJ np pl [] st (fun _ _ h=>h) (fun _ _ h=>h) h hp.1 _ hp.2.1 hD 0 (fun _=>false) β H a _ rfl ⟨hF,hW.drew,by simp,by simp⟩;exact wp_region_any hm (qK _ _ _ _ (vj hp.2.2 hj))
end
/-! how simp runs it -/
def Mr(P:Program)(C:Ctx)(ops:Array Oper)(D:List dc)(r:Pz)(Q QJ:aX)(st:St):Prop:=tG P C ops D r st Q QJ
def njZ(P:Program)(C:Ctx)(ops:Array Oper)(D:List dc)(r:Pz)(QJ:aX)(st:St):Prop:=tG P C ops D r st QJ QJ
def KU(d:Option Tmp)(st:St)(next:St→Prop)(z:SV):Prop:=next ⟨st.n,cX d (some z) st.fr,st.M⟩
def Ct(P:Program)(f:FuncId)(xs:Option (List SV))(d:Option Tmp)(st:St)(next:St→Prop):Prop:=match xs with
 | some xs=>ak P f∧rS d st.n∧rJ P f xs st.M (KU d st next)
 | none=>False
section
variable {P:Program} {C:Ctx} {st:St} {Q QJ:aX} {l:List Oper} {D:List dc} {d:Option Tmp} {op:Op} {t:TypeId} {p:String} {af:Array Edge} {g:Option (Nat × Bool)} {o:Oper} {r:Pz} {i:Nat} {ks:List Nat} {next:St→Prop}
@[simp] theorem aaK:Mr P C l.toArray D r Q QJ st=tG P C l.toArray D r st Q QJ:=rfl
@[simp] theorem aaW:njZ P C l.toArray D r QJ st=tG P C l.toArray D r st QJ QJ:=rfl
@[simp] theorem aer{z:SV}:KU d st next z=next ⟨st.n,cX d (some z) st.fr,st.M⟩:=rfl
@[simp] theorem K8{f:FuncId}{xs:List SV}:Ct P f (some xs) d st next=(ak P f∧rS d st.n∧rJ P f xs st.M (KU d st next)):=rfl
def zQ(P:Program)(C:Ctx)(l:List Oper)(D:List dc)(ks:List Nat)(o:Oper)(r:Pz)(Q QJ:aX)(st:St):Prop:=ue ks st o.op∧cf P C none o st (Mr P C l.toArray D r Q QJ) OU
def zP(P:Program)(C:Ctx)(l:List Oper)(D:List dc)(o:Oper)(r:Pz)(QJ:aX)(st:St):Prop:=l4 P o st (njZ P C l.toArray D r QJ)
@[simp] theorem aeI:zQ P C l D ks o r Q QJ st=(ue ks st o.op∧cf P C none o st (Mr P C l.toArray D r Q QJ) OU):=rfl
@[simp] theorem aeN:zP P C l D o r QJ st=l4 P o st (njZ P C l.toArray D r QJ):=rfl
@[simp ↓] theorem I3{f:FuncId}{os:List Operand}{ts:Array TypeId}:l4 P ⟨d,.call ⟨.value (.func f),os.toArray,ts⟩,t,p,af,g⟩ st next=Ct P f (qc st.fr os) d st next:=by
 simp only[l4,Ct];cases qc st.fr os<;>rfl
def oQ(P:Program)(C:Ctx)(l:List Oper)(D:List dc)(ks:List Nat)(o:Option Oper)(r:Pz)(st:St)(Q QJ:aX):Prop:=match o with
 | some o=>gd l.toArray o st (zQ P C l D ks o r Q QJ) (Mr P C l.toArray D r Q QJ)
 | none=>False
def oP(P:Program)(C:Ctx)(l:List Oper)(D:List dc)(o:Option Oper)(r:Pz)(st:St)(Q QJ:aX):Prop:=match o with
 | some o=>gd l.toArray o st (zP P C l D o r QJ) (Mr P C l.toArray D r Q QJ)
 | none=>False
def oT(P:Program)(C:Ctx)(l:List Oper)(D:List dc)(i t:Nat)(ti:Option TI)(r:Pz)(st:St)(Q QJ:aX):Prop:=match ti with
 | some ti=>t<st.n∧tG P C l.toArray (D++[⟨i,t,st.M.length,ti⟩]) r ⟨st.n,del st.fr t,st.M++[none]⟩ Q QJ
 | none=>False
def oD(P:Program)(C:Ctx)(l:List Oper)(D:List dc)(i:Nat)(o:Option Oper)(r:Pz)(st:St)(Q QJ:aX):Prop:=match o with
 | some ⟨some t,.alloc T,_,_,_,none⟩=>oT P C l D i t (aA P T) r st Q QJ
 | _=>False
@[simp] theorem abS:oQ P C l D ks (some o) r st Q QJ=gd l.toArray o st (zQ P C l D ks o r Q QJ) (Mr P C l.toArray D r Q QJ):=rfl
@[simp] theorem Xi:oP P C l D (some o) r st Q QJ=gd l.toArray o st (zP P C l D o r QJ) (Mr P C l.toArray D r Q QJ):=rfl
@[simp] theorem W3{t:Nat}{ti:TI}:oT P C l D i t (some ti) r st Q QJ=(t<st.n∧tG P C l.toArray (D++[⟨i,t,st.M.length,ti⟩]) r ⟨st.n,del st.fr t,st.M++[none]⟩ Q QJ):=rfl
@[simp] theorem abR{t':Nat}{T:TypeId}:oD P C l D i (some ⟨some t',.alloc T,t,p,af,none⟩) r st Q QJ=oT P C l D i t' (aA P T) r st Q QJ:=rfl
@[simp] theorem YH:Pz.qs [] r=r:=rfl
@[simp] theorem U4{is:List Nat}:Pz.qs (i::is) r=.q i [] (Pz.qs is r):=rfl
@[simp ↓] theorem ahP{r:Pl}:tG P C l.toArray D (.b r) st Q QJ=dW P C l.toArray r ⟨st.n,lG D st.fr,jk D st.M⟩ Q QJ:=rfl
@[simp ↓] theorem ahq:tG P C l.toArray D (.q i ks r) st Q QJ=oQ P C l D ks (jP l i) r st Q QJ:=by
 simp only[tG,ib];cases jP l i<;>rfl
@[simp ↓] theorem ahX:tG P C l.toArray D (.p i r) st Q QJ=oP P C l D (jP l i) r st Q QJ:=by
 simp only[tG,ib];cases jP l i<;>rfl
@[simp ↓] theorem ahb:tG P C l.toArray D (.d i r) st Q QJ=oD P C l D i (jP l i) r st Q QJ:=by
 simp only[tG,ib,oD,oT]
@[simp] theorem Ni{fr:List (Nat × SV)}:lG [] fr=fr:=rfl
@[simp] theorem Ll{d:dc}{fr:List (Nat × SV)}:lG (d::D) fr=(d.t,.ptr d.k 0 0)::lG D fr:=rfl
@[simp] theorem OE{M:aJ}:jk [] M=M:=rfl
@[simp] theorem N3{d:dc}{M:aJ}:jk (d::D) M=aK (jk D M) d.k (GO d):=by rw[eh];rfl
@[simp] theorem Zc{i t k:Nat}{ti:TI}:GO ⟨i,t,k,ti⟩=some ⟨ti.size,[ti.cK],false⟩:=rfl
end
theorem UN{P:Program}{f:FuncId}{args args':List SV}{y:SV}{M:aJ}{k:SV→Prop}(h:aF P f args' y)(hk0:SV.rL args=[])(hs:cz M args args')(hk:k y):rJ P f args M k :=
 ⟨hk0,args',_,hs,h,fun x hx=>by rw[hx];exact hk⟩
mutual
theorem cW(M:aJ):∀x:SV,x.pure=true→Sub M x x
 | .val v,_=>by simp only[Sub]
 | .ptr _ _ _,h=>by simp[SV.pure]at h
 | .view _ _ _,h=>by simp[SV.pure]at h
 | .mp _,h=>by simp[SV.pure]at h
 | .ro _,_=>rfl
 | .bK _ _,_=>rfl
 | .fc _ _,_=>rfl
 | .any,_=>rfl
 | .gG _ l r,h=>by
  simp only[SV.pure,alL]at h;simp only[Sub];exact⟨trivial,iE M l h.1,iE M r h.2⟩
 | .agg l,h=>by simp only[Sub];exact iE M l (by simpa[SV.pure]using h)
 | .bO l,h=>by simp only[Sub];exact iE M l (by simpa[SV.pure]using h)
 | .iH _ x,h=>by simp only[Sub];exact⟨trivial,cW M x (by simpa[SV.pure]using h)⟩
theorem iE(M:aJ):∀l:List SV,SV.bf l=true→cz M l l
 | [],_=>by simp only[cz]
 | x::l,h=>by
  simp only[SV.bf,alL]at h;simp only[cz];exact⟨cW M x h.1,iE M l h.2⟩
end
mutual
theorem Da:∀x:SV,x.pure=true→x.ks=[]
 | .val _,_=>rfl
 | .ptr _ _ _,h=>by simp[SV.pure]at h
 | .view _ _ _,h=>by simp[SV.pure]at h
 | .mp _,h=>by simp[SV.pure]at h
 | .ro _,_=>rfl
 | .bK _ _,_=>rfl
 | .fc _ _,_=>rfl
 | .any,_=>rfl
 | .gG _ l r,h=>by
  simp only[SV.pure,alL]at h;simp[SV.ks,jT l h.1,jT r h.2]
 | .agg l,h=>by simp only[SV.ks];exact jT l (by simpa[SV.pure]using h)
 | .bO l,h=>by simp only[SV.ks];exact jT l (by simpa[SV.pure]using h)
 | .iH _ x,h=>by simp only[SV.ks];exact Da x (by simpa[SV.pure]using h)
theorem jT:∀l:List SV,SV.bf l=true→SV.rL l=[]
 | [],_=>rfl
 | x::l,h=>by
  simp only[SV.bf,alL]at h;simp[SV.rL,Da x h.1,jT l h.2]
end
theorem ai{P:Program}{C:Ctx}{f:FuncId}{args:List SV}{y:SV}{M:aJ}{W:Option (List Nat)}{k:aJ→List Nat→SV→Prop}(h:aF P f args y)(hp:SV.bf args=true)(hk:k M [] y):cU P C f args M W k :=
 ba h (iE M args hp) (by rw[jT args hp];exact hk)
theorem akK{P:Program}{C:Ctx}{f:FuncId}{a:List SV}{y:SV}{M:aJ}{W:Option (List Nat)}{k:aJ→List Nat→SV→Prop}(h:aF P f a y)(g:k M [] y)(p:SV.bf a=true:=by simp):cU P C f a M W k:=ai h p g
theorem ig{P:Program}{f:FuncId}{args:List SV}{y:SV}{M:aJ}{k:SV→Prop}(h:aF P f args y)(hp:SV.bf args=true)(hk:k y):rJ P f args M k :=
 UN h (jT args hp) (iE M args hp) hk
end Go.Sv

