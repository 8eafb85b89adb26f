/- A text of the prover's own. -/
import Derived.Test.YtnimjdcaajmfcaaGreatDoorVVn
import Derived.Laws.AppendOwn
open Go.Builtin renaming lenOf->axK,firstCells->axL,append_->axM,zeroCells->axN,copy_->axO
open Option.some renaming injEq->awR
open List renaming getElem?_eq_none->awT,ext_getElem?->axA,getElem?_set_self->axP,getElem?_set_ne->axQ,length_eq_zero_iff->axR,length_append->awU,getElem?_append_left->awO,map_cons->aw6
open Nat renaming mul_one->axo,eq_zero_or_pos->axS,mul_le_mul_right->axn,add_mul->awM,lt_or_ge->axT,add_zero->axU,le_refl->axq,zero_mul->axV,zero_add->axW
open Go.Value.slice renaming injEq->axX
namespace Go.Sv
open Go Go.RowKit
def eU(k:Nat)(M:aC):Bool:=M.all λoe=>match oe with
 | some e=>!SV.aY k e.es
 | none=>true
def mw(M:aC)(te:TI)(x:Option SV):Option (Prop × List SV) :=
 match x with
 | some (.ro ys)=>some (ys≠[]->(aM ys 0).ir=te.size∧(aM ys 0).aW=false,ys)
 | some (.view k i n) =>
  match aA M k with
  | some e=>some (e.sz=te.size∧i+n<=e.es.length,(e.es.drop i).take n)
  | none=>none
 | _=>none
def Qo(k:Nat)(x:SV):SV:=match x with
 | .agg l=>.agg (l.map λy=>if y.cD k then .any else y)
 | .bM l=>.bM l
 | x=>if x.cD k then .any else x
def Iw(k:Nat)(x:SV):SV:=match x with
 | .agg l=>.agg (l.map λy=>if y.cD k then .any else y)
 | .bM l=>.bM (l.map (Qo k))
 | x=>if x.cD k then .any else x
def Gz(k:Nat)(es:List SV):List SV:=if SV.aY k es then es.map (Iw k) else es
def rH(k:Nat)(M:aC):aC:=M.map λoe=>oe.map λe=>⟨e.sz,Gz k e.es,e.fz⟩
def HY(k:Nat)(M:aC):aC:=if eU k M then M else rH k M
def BQ(b:Option SV)(M:aC):aC:=match b with
 | some (.view k _ _)=>HY k M
 | _=>M
theorem Ge(b:Option SV)(M:aC):(BQ b M).length=M.length:=by
 unfold BQ;split
 ·unfold HY rH;split<;>simp
 ·rfl
def lT(P:Program)(fx:List Nat)(M:aC)(ti aP:Option TI)(b x:Option SV):cK :=
 match ti,aP,b with
 | some ⟨.sl el,_,_,_⟩,some ⟨.sl _,_,_,_⟩,some (.view k 0 n) =>
  match an P el,aA M k with
  | some te,some ⟨sz,es,false⟩ =>
   match mw M te x with
   | some (c,ys)=>.m (k∉fx∧c∧n=es.length∧sz=te.size∧eU k M=true∧SV.aY k ys=false∧(∀y∈ys,y.aW=false)∧(es.length+ys.length)*te.bytes<=70368744177664∧0<te.bytes)
     (aX M k (some ⟨sz,es++ys,false⟩)) [k] (some (.view k 0 (n+ys.length)))
   | none=>.stuck
  | _,_=>.stuck
 | some ⟨.sl el,_,_,_⟩,some ⟨.sl _,_,_,_⟩,some (.val (.slice none 0 0)) =>
  match an P el with
  | some te =>
   match mw M te x with
   | some (c,ys)=>.m (c∧eU M.length M=true∧SV.aY M.length ys=false∧(∀y∈ys,y.aW=false)∧ys.length*te.bytes<=70368744177664∧0<te.bytes)
     (M++[some ⟨te.size,ys,false⟩]) [M.length] (some (.view M.length 0 ys.length))
   | none=>.stuck
  | _=>.stuck
 | _,_,_=>.stuck
def jf(P:Program)(fx:List Nat)(M:aC)(ti aP:Option TI)(b x:Option SV):cK:=lT P fx (BQ b M) ti aP b x
def D4(P:Program)(M:aC)(ti:Option TI)(b x:Option SV):cK :=
 match ti,b with
 | some ⟨.sl el,_,_,_⟩,some (.view k 0 n) =>
  match an P el,aA M k with
  | some te,some ⟨sz,es,false⟩ =>
   match mw M te x with
   | some (c,ys)=>.m (c∧n=es.length∧ys.length=n∧sz=te.size∧∀y∈ys,y.aW=false) (aX M k (some ⟨sz,ys,false⟩)) [] (some (.val (.int .i64 n)))
   | none=>.stuck
  | _,_=>.stuck
 | _,_=>.stuck
section
variable {P:Program} {C:Ctx} {β:cu} {H:Hp} {M:aC} {w:World} {c:Prop}
theorem Bh(hW:cM C β H M w){te:TI}{x:Option SV}{u:Value}{ys:List SV}(h:mw M te x=some (c,ys))(hc:c)(hx:∀s,x=some s->Den β H s u) :
  ∃vs,ba β H te.size ys vs∧(axK u).run P w=.ok ys.length w∧∀w',w'.heap=w.heap->(axL te.size ys.length u).run P w'=.ok vs.toArray w':=by
 unfold mw at h;split at h
 ·rename_i zs;simp only[awR,Prod.mk.injEq]at h;obtain⟨rfl,rfl⟩:=h;have hu:=hx _ rfl;simp only[Den]at hu;rcases hu with⟨rfl,a0,c0,rfl⟩ | ⟨b,o,c',s,cs,vs,rfl,g2,g3,g4,g5⟩
  ·refine⟨[],by simp[ba],by simp[axK],λw' _=>?_⟩;cases a0<;>simp[axL,loadCells,loadCellsFrom]
  ·obtain⟨T,z,hb⟩:=hW.inv b cs g3;have hl:=g4.length;have hs:s*1=te.size∨zs=[]:=by
    by_cases aj:zs=[]
    ·exact .inr aj
    ·obtain⟨g6,g7⟩:=hc aj;obtain⟨y,au,be, -⟩:=g4.get (i:=0) (List.length_pos_iff.2 aj);rw[<-g6,<-be,axo];exact .inl (au.Tx g7)
   rcases hs with hs | rfl
   ·rw[axo]at hs;subst hs;refine⟨vs,ba.mono (λ_ _ h=>h) _ _ _ (λk d _ hd=>by simp[o4]at hd) g4,by simp[axK],λw' aS=>?_⟩;have al:=run_loadCells (P:=P) (w:=w') (o:=o) (by rw[aS];exact hb) vs g5;rw[hl]at al;simpa[axL]using al
   ·refine⟨[],by simp[ba],by simp[axK],λw' _=>?_⟩;simp[axL,loadCells,loadCellsFrom]
 ·rename_i k i n;split at h
  ·rename_i e he;simp only[awR,Prod.mk.injEq]at h;obtain⟨rfl,rfl⟩:=h;obtain⟨c1,c2⟩:=hc;have hu:=hx _ rfl;simp only[Den]at hu;have hlen:((e.es.drop i).take n).length=n:=by simp;omega
   rcases hu with⟨_,rfl,rfl,rfl⟩ | ⟨d,c',o,g1,g2,g3,g4,rfl⟩
   ·exact⟨[],by simp[ba],by simp[axK],λw' _=>by simp[axL]⟩
   ·rcases hW.dF k e (aU he)with⟨h4,_⟩ | ⟨d',cs,T,vs,h4,h5,h6,h7,h8,h9,av, -⟩ | ⟨d',ms,h4,h5,h6,h7⟩
    rotate_left 2
    ·rw[g1]at h4;simp only[awR]at h4;subst h4;obtain⟨-,bf,bg⟩:=h5;rw[bf,bg]at g3;have bh:n=0:=by omega
     subst bh;exact⟨[],by simp[ba],by simp[axK],λw' _=>by simp[axL,loadCells,loadCellsFrom]⟩
    ·rw[g1]at h4;simp at h4
    ·rw[g1]at h4;simp only[awR]at h4;subst h4;rw[c1]at h8;have hl:=h8.length;refine⟨(vs.drop (i*te.size)).take (n*te.size),(h8.drop i).take n,by simp[axK,hlen],λw' aS=>?_⟩;rw[hlen];rcases axS n with rfl | hn
     ·simp[axL,loadCells,loadCellsFrom]
     ·have ho:=g4 (by omega);have a8:((vs.drop (i*te.size)).take (n*te.size)).length=n*te.size:=by
       have:(i+n)*te.size<=e.es.length*te.size:=axn _ c2;rw[awM]at this;simp;omega
      have al:=run_loadCells (P:=P) (w:=w') (o:=o) (by rw[aS];exact h6) ((vs.drop (i*te.size)).take (n*te.size)) (λq hq=>by rw[a8]at hq;rw[List.getElem?_take_of_lt hq,List.getElem?_drop,ho,h5,c1];refine av _ ?_;have:(i+n)*te.size<=e.es.length*te.size:=axn _ c2;rw[awM]at this;omega)
      rw[a8]at al;simpa[axL]using al
  ·cases h
 ·cases h
theorem ba.Jq{s:Nat}:∀{l:List SV} {vs:List Value},ba β H s l vs->(∀x∈l,x.aW=false)->∀v∈vs,v.oneCell'=true
 | [],vs,h,_,v,hv=>by simp only[ba]at h;simp[h]at hv
 | x::l,vs,h,ht,v,hv=>by
  simp only[ba]at h;obtain⟨u,r,rfl,h2,h3,h4⟩:=h;rcases List.mem_append.1 hv with hv | hv
  ·exact(h3.ua (z6 (ht x (by simp)))).Jq v hv
  ·exact h4.Jq (λy hy=>ht y (by simp[hy])) v hv
theorem Gp{k:Nat}(h:eU k M=true){i:Nat}{e:cJ}(hi:M[i]?=some (some e)):SV.aY k e.es=false:=by simp only[eU,List.all_eq_true]at h;have:=h _ (List.mem_of_getElem? hi);simpa using this
theorem cM.rebind(h:cM C β H M w){k:Nat}(aT:∀d,k∈C.fx->C.b0 k≠some d){e:cJ}(hk:M[k]?=some (some e))(hn:eU k M=true){cs:Array Value}{T:TypeId}{es:List SV}{vs:List Value}
  (hd:ba β H e.sz es vs) (hu:SV.aY k es=false) (hl:vs.length<=cs.size) (hc:∀i,i<vs.length->cs[i]?=vs[i]?) :
  cM C (β.eK k (some ⟨w.heap.size,cs.size,e.sz⟩)) H (M.set k (some ⟨e.sz,es,false⟩)) (w.alloc (.cells cs T)) where
 os:=h.os
 tape:=h.tape
 output:=h.output
 size:=by have:=h.size;simp;omega
 frame b hb hx:=by rw[heap_alloc_old (by have:=h.size;omega)];exact h.frame b hb hx
 ext:=h.ext
 new:=h.new
 inv b aw hb:=by obtain⟨T',z,h'⟩:=h.inv b aw hb;exact⟨T',z,by rw[heap_alloc_old (iL h')];exact h'⟩
 dF i e' hi:=by
  have ac:∀j,j≠k->∀d,β j=some d->(β.eK k (some ⟨w.heap.size,cs.size,e.sz⟩)) j=some d:=λj hj d hd=>by simp only[cu.eK];rw[if_neg hj];exact hd
  rcases getElem?_set_cases hi with⟨rfl,he,_⟩ | ⟨aj,ak⟩
  ·simp only[awR]at he;subst he;exact .inr (.inl ⟨_,cs,T,vs,by simp[cu.eK];rfl,rfl,heap_alloc_new,rfl,ba.mono (λ_ _ h=>h) _ _ _ (λj d hj=>ac j (λe=>by subst e;simp only at hj;rw[hu]at hj;cases hj) d) hd,hl,hc,λhf=>by cases hf⟩)
  ·have aJ:=Gp hn ak;rcases h.dF i e' ak with⟨h1,h2⟩ | ⟨d,aw,T',bi,h1,h2,h3,h4,h5,h6,h7,h8⟩ | ⟨d,ms,h1,h2,h3,h4⟩
   ·exact .inl ⟨ac i aj _ h1,h2⟩
   ·exact .inr (.inl ⟨d,aw,T',bi,ac i aj _ h1,h2,by rw[heap_alloc_old (iL h3)];exact h3,h4,ba.mono (λ_ _ h=>h) _ _ _ (λj d hj=>ac j (λe=>by subst e;rw[aJ]at hj;cases hj) d) h5,h6,h7,h8⟩)
   ·exact .inr (.inr ⟨d,ms,ac i aj _ h1,h2,by rw[heap_alloc_old (iL h3)];exact h3,cS.mono (λ_ _ h=>h) _ _ _ (λj d hj=>ac j (λe=>by subst e;rw[aJ]at hj;cases hj) d) h4⟩)
 own i e' d hi ay:=by
  rcases getElem?_set_cases hi with⟨rfl,he,_⟩ | ⟨aj,ak⟩
  ·simp only[cu.eK,if_true,awR]at ay;subst ay;refine⟨λ_=>?_,.inl h.size⟩;cases hH:H w.heap.size with
   | none=>rfl
   | some aw=>have:=h.aR hH;omega
  ·simp only[cu.eK]at ay;rw[if_neg aj]at ay;exact h.own i e' d ak ay
 inj i i' e1 e2 d1 d2 hi ak ae af hb:=by
  by_cases am:i=k<;>by_cases ax:i'=k
  ·rw[am,ax]
  ·subst am;simp only[cu.eK]at ae af;simp only[if_true,awR]at ae;rw[if_neg ax]at af;subst ae;rcases getElem?_set_cases ak with⟨rfl,_,_⟩ | ⟨_,az⟩
   ·exact absurd rfl ax
   ·have:=h.lt az af;simp only at hb;omega
  ·subst ax;simp only[cu.eK]at ae af;simp only[if_true,awR]at af;rw[if_neg am]at ae;subst af;rcases getElem?_set_cases hi with⟨rfl,_,_⟩ | ⟨_,az⟩
   ·exact absurd rfl am
   ·have:=h.lt az ae;simp only at hb;omega
  ·simp only[cu.eK]at ae af;rw[if_neg am]at ae;rw[if_neg ax]at af;rcases getElem?_set_cases hi with⟨rfl,_,_⟩ | ⟨_,az⟩
   ·exact absurd rfl am
   ·rcases getElem?_set_cases ak with⟨rfl,_,_⟩ | ⟨_,aV⟩
    ·exact absurd rfl ax
    ·exact h.inj i i' e1 e2 d1 d2 az aV ae af hb
 fresh i hi:=by
  simp only[List.length_set]at hi;have aK:k<M.length:=by
   rcases axT k M.length with h' | h'
   ·exact h'
   ·rw[awT h']at hk;cases hk
  simp only[cu.eK];rw[if_neg (by omega)];exact h.fresh i hi
 iK i d hi hd:=by simp only[cu.eK];rw[if_neg (λe=>by subst e;exact aT d hi hd)];exact h.iK i d hi hd
 fM:=h.fM
theorem xY(hW:cM C β H M w){k:Nat}(aT:∀d,k∈C.fx->C.b0 k≠some d){sz:Nat}{es ys:List SV}(hk:M[k]?=some (some ⟨sz,es,false⟩))(hn:eU k M=true)(bj:SV.aY k ys=false)(bk:∀y∈ys,y.aW=false)
  {ts:Array TypeId} {t0 t1 el bl ty:TypeId} {te:TI} {s0 b0 s1 b1:Nat} {z0 z1:List SV} (h0:ts[0]?=some t0) (h1:ts[1]?=some t1)
  (aL:an P t0=some ⟨.sl el,s0,b0,z0⟩) (bm:an P t1=some ⟨.sl bl,s1,b1,z1⟩) (ap:an P el=some te) (wE:sz=te.size)
  {u v:Value} (hu:Den β H (.view k 0 es.length) u) {vs:List Value} (aN:ba β H te.size ys vs) (aO:(axK v).run P w=.ok ys.length w)
  (aZ:∀w',w'.heap=w.heap->(axL te.size ys.length v).run P w'=.ok vs.toArray w')
  (hb:(es.length+ys.length)*te.bytes<=70368744177664) (bn:0<te.bytes) :
  ∃z w' β',(axM ts ty #[u,v]).run P w=.ok z w'∧cM C β' H (M.set k (some ⟨sz,es++ys,false⟩)) w'∧Den β' H (.view k 0 (es.length+ys.length)) z ∧
   (∀j d,j≠k->β j=some d->β' j=some d)∧w.heap.size<=w'.heap.size∧∀b,b<w.heap.size->(∀d,β k=some (some d)->b≠d.b)->w'.heap[b]?=w.heap[b]?:=by
 subst wE;obtain⟨i0,d0,bo,ao⟩:=aH aL;obtain⟨i1,d1,bF,au⟩:=aH bm;obtain⟨ie,de,ze,ad⟩:=aH ap;obtain rfl:=mm ao.k;obtain rfl:=mm au.k;obtain⟨zv,bG,bH,bp⟩:=rT ad β H;have aq:ie.bytes=te.bytes:=ad.bytes.symm;have a9:es.length+ys.length<=70368744177664:=by
  calc es.length+ys.length=(es.length+ys.length)*1:=(axo _).symm
   _<=(es.length+ys.length)*te.bytes:=Nat.mul_le_mul_left _ bn
   _<=_:=hb
 have ai:=aN.length;have aB:ys=[]->M.set k (some ⟨te.size,es++ys,false⟩)=M:=λhy=>by
  subst hy;have aK:k<M.length:=by
   rcases axT k M.length with h' | h'
   ·exact h'
   ·rw[awT h']at hk;cases hk
  apply axA;intro q;by_cases hq:k=q
  ·subst hq;rw[axP aK,hk];simp
  ·rw[axQ hq]
 have bI:PO P el=te.size:=by simp[PO,ad.info,ad.size]
 have hex:∃base cap,u=.slice base es.length cap∧es.length<=cap:=by
  simp only[Den]at hu;rcases hu with⟨_,_,hl,hu⟩ | ⟨d,c',o,_,bq,_,_,hu⟩
  ·exact⟨none,0,by rw[hl];exact hu,by omega⟩
  ·exact⟨_,c',hu,bq⟩
 obtain⟨base,cap,rfl,a1⟩:=hex;rcases axS ys.length with ag | bb
 ·have a2:ys=[]:=axR.1 ag;have a3:vs=[]:=axR.1 (by rw[ai,ag];simp);have hf:=aZ w rfl;rw[a3,ag]at hf;rw[ag]at aO;refine⟨.slice base es.length cap,w,β,?_,by rw[aB a2];exact hW,by rw[ag,axU];exact hu,λ_ _ _ h=>h,axq _,λ_ _ _=>rfl⟩;cases base<;>simp[axM,h0,h1,ao.aQ,au.aQ,ad.fC,aO,a1,hf,storeCells]
 ·by_cases ab:es.length+ys.length<=cap
  ·-- in place
   simp only[Den]at hu;rcases hu with⟨_,_,_,hu⟩ | ⟨d,c',o,g1,g2,g3,g4,hu⟩
   ·simp only[axX]at hu;omega
   ·simp only[axX]at hu;obtain⟨rfl, -,rfl⟩:=hu;have ho:=g4 (by omega);rw[axV]at ho;subst ho;rcases hW.dF k _ hk with⟨h4,_⟩ | ⟨d',cs,T,aD,h4,h5,h6,h7,h8,h9,av, -⟩ | ⟨d',ms,h4,h5,h6,h7⟩
    rotate_left 2
    ·rw[g1]at h4;simp only[awR]at h4;subst h4;rw[h5.2.1,h5.2.2]at g3;omega
    ·rw[g1]at h4;simp at h4
    ·rw[g1]at h4;simp only[awR]at h4;subst h4;simp only at h5 h8;have ar:=h8.length;have aE:(es.length+ys.length)*te.size<=cs.size:=by
      rw[h7]
      calc (es.length+ys.length)*te.size<=cap*te.size:=axn _ ab
       _=(0+cap)*d.sz:=by rw[axW,h5]
       _<=d.Jn:=g3
     rw[awM]at aE;have ah:∀x∈vs,x.oneCell'=true:=aN.Jq bk;obtain⟨w',aw,r1,r2,r3,r4⟩:=jU (P:=P) vs w (es.length*te.size) 0 cs h6 (by rw[ai];omega) ah;have hf:=aZ w rfl;refine⟨.slice (some ⟨d.b,0,none⟩) (es.length+ys.length) cap,w',β,?_,?_,?_,λ_ _ _ h=>h,by rw[r2.size];exact axq _,λb _ hb=>r2.there b (hb d g1)⟩
     ·simp[axM,h0,h1,ao.aQ,au.aQ,ad.fC,aO,ab,hf,Addr.add_eq,r1]
     ·refine hW.write hk rfl g1 h5 r2 (by rw[r3,h7]) (h8.append aN) (by rw[awU,ar,ai,r3];omega) (λq hq=>?_);rw[awU,ar,ai]at hq;rw[r4];simp only[axU];by_cases bJ:q<es.length*te.size
      ·rw[if_neg (by omega),awO (by omega)];exact av q (by omega)
      ·rw[if_pos (by rw[ai];omega),List.getElem?_append_right (by omega),ar]
     ·simp only[Den];right;exact⟨d,cap,0,g1,ab,g3,λ_=>by simp,rfl⟩
  ·-- a new block
   have hold:∃aa:List Value,ba β H te.size es aa∧(axL te.size es.length (.slice base es.length cap)).run P w.drew=.ok aa.toArray w.drew:=by
    simp only[Den]at hu;rcases hu with⟨_,_,hl,hu⟩ | ⟨d,c',o,g1,g2,g3,g4,hu⟩
    ·simp only[axX]at hu;obtain⟨rfl, -,rfl⟩:=hu;have:es=[]:=axR.1 hl;subst this;exact⟨[],by simp[ba],by simp[axL]⟩
    ·simp only[axX]at hu;obtain⟨rfl, -,rfl⟩:=hu;rcases hW.dF k _ hk with⟨h4,_⟩ | ⟨d',cs,T,aD,h4,h5,h6,h7,h8,h9,av, -⟩ | ⟨d',ms,h4,h5,h6,h7⟩
     rotate_left 2
     ·rw[g1]at h4;simp only[awR]at h4;subst h4;rw[h5.2.1,h5.2.2]at g3;have:es=[]:=axR.1 (by omega);subst this;exact⟨[],by simp[ba],by simp[axL,loadCells,loadCellsFrom]⟩
     ·rw[g1]at h4;simp at h4
     ·rw[g1]at h4;simp only[awR]at h4;subst h4;simp only at h5 h8;have ar:=h8.length;refine⟨aD,h8,?_⟩;rcases axS es.length with he | he
      ·have:aD=[]:=axR.1 (by rw[ar,he];simp);subst this;rw[he];simp[axL,loadCells,loadCellsFrom]
      ·have ho:=g4 (by omega);rw[axV]at ho;subst ho;have al:=run_loadCells (P:=P) (w:=w.drew) (o:=0) (T:=T) (z:=(0,0)) (b:=d.b) h6 aD (λq hq=>by rw[axW];exact av q hq);rw[ar]at al;simpa[axL]using al
   obtain⟨aa,bc,br⟩:=hold;have bs:=bc.length;have hf:=aZ w.drew rfl;have bt:¬(281474976710656<Builtin.nextslicecap (es.length+ys.length) cap*ie.bytes):=by have:=growslice_fits (need:=es.length+ys.length) (old:=cap) (bytes:=ie.bytes) (by omega) (by rw[aq];omega);omega
   have bu:¬(9223372036854775807<(es.length:Int)+(ys.length:Int)):=by omega
   have bv:Den (β.eK k (some ⟨w.heap.size,(aa++vs).length+(grownCap w (es.length+ys.length) cap el - (es.length+ys.length))*ze.cells.size,te.size⟩)) H (.view k 0 (es.length+ys.length))
     (.slice (some ⟨w.heap.size,0,none⟩) (es.length+ys.length) (grownCap w (es.length+ys.length) cap el)):=by
    simp only[Den];right;refine⟨_,grownCap w (es.length+ys.length) cap el,0,by simp[cu.eK];rfl,grownCap_ge _ _ _ _,?_,λ_=>by simp,rfl⟩;have bK:=grownCap_ge w (es.length+ys.length) cap el;simp only[axW,bs,ai,bp];rw[<-awM,<-awM];exact axn _ (by omega)
   have a4:SV.aY k es=false:=Gp hn hk;have bd:=(hW.drew).rebind (T:=el) aT hk hn (cs:=aa.toArray++vs.toArray++axN ze.cells (grownCap w (es.length+ys.length) cap el - (es.length+ys.length)))
    (bc.append aN) (by
     have:∀a b:List SV,SV.aY k (a++b)=(SV.aY k a||SV.aY k b):=λa b=>by
      induction a with
      | nil=>simp[SV.aY]
      | cons x a ih=>simp[SV.aY,ih,Bool.or_assoc]
     rw[this,a4,bj];rfl) (by simp) (λq hq=>by
     rw[<-Array.getElem?_toList];simp only[Array.toList_append];rw[awO hq])
   have a5:(aa.toArray++vs.toArray++axN ze.cells (grownCap w (es.length+ys.length) cap el - (es.length+ys.length))).size =
     (aa++vs).length+(grownCap w (es.length+ys.length) cap el - (es.length+ys.length))*ze.cells.size:=by
    simp[size_zeroCells]
   rw[a5]at bd;refine⟨.slice (some ⟨w.heap.size,0,none⟩) (es.length+ys.length) (grownCap w (es.length+ys.length) cap el),_,_,?_,bd,bv,λj d hj hd=>by simp only[cu.eK];rw[if_neg hj];exact hd,by simp,λb hb _=>?_⟩
   ·simp[axM,h0,h1,ao.aQ,au.aQ,ad.fC,ad.yO,ad.lE,aO,ab,hf,br,bt,bu,Question.forced,newRow,grownCap];congr 2;apply Array.ext';simp[List.append_assoc]
   ·rw[heap_alloc_old (by simpa using hb)];rfl
theorem Au{k:Nat}:∀{l:List SV} {vs:List Value},bN β H l vs->bN β H (l.map λy=>if y.cD k then .any else y) vs
 | [],vs,h=>by simpa[bN]using h
 | y::l,vs,h=>by
  simp only[bN]at h;obtain⟨v,r,rfl,h1,h2,h3⟩:=h;simp only[aw6,bN];refine⟨v,r,rfl,?_,?_,Au h3⟩
  ·split
   ·rfl
   ·exact h1
  ·split
   ·simp only[Den];exact Den.one h2 h1
   ·exact h2
theorem Hv{k:Nat}:∀{x:SV} {v:Value},Den β H x v->Den β H (Qo k x) v:=by
 intro x v h;unfold Qo;split
 ·rename_i l;simp only[Den]at h ⊢;obtain⟨vs,rfl,h⟩:=h;exact⟨vs,rfl,Au h⟩
 ·exact h
 ·rename_i bw bx;split
  ·simp only[Den];refine Den.one h ?_;cases x<;>simp_all [SV.one,SV.cD]
  ·exact h
theorem GQ{k:Nat}:∀{l:List SV} {vs:List Value},bZ β H l vs->bZ β H (l.map (Qo k)) vs
 | [],vs,h=>by simpa[bZ]using h
 | y::l,vs,h=>by simp only[bZ]at h;obtain⟨v,r,rfl,h2,h3⟩:=h;simp only[aw6,bZ];exact⟨v,r,rfl,Hv h2,GQ h3⟩
theorem OF{k:Nat}:∀{x:SV} {v:Value},Den β H x v->Den β H (Iw k x) v:=by
 intro x v h;unfold Iw;split
 ·rename_i l;simp only[Den]at h ⊢;obtain⟨vs,rfl,h⟩:=h;exact⟨vs,rfl,Au h⟩
 ·simp only[Den]at h ⊢;obtain⟨vs,rfl,h⟩:=h;exact⟨vs,rfl,GQ h⟩
 ·rename_i bw bx;split
  ·simp only[Den];refine Den.one h ?_;cases x<;>simp_all [SV.one,SV.cD]
  ·exact h
theorem FK{k:Nat}:∀{es:List SV} {ms:List MapEntry} {n:Nat},cS β H es ms n->cS β H (es.map (Iw k)) ms n
 | [],ms,n,h=>by simpa[cS]using h
 | x::es,ms,n,h=>by simp only[cS]at h;obtain⟨key,y,m,r,rfl,h2,h3,h4,h5,h6,h7⟩:=h;simp only[aw6,cS];exact⟨key,Qo k y,m,r,rfl,h2,h3,h4,h5,Hv h6,FK h7⟩
theorem E2{k s:Nat}:∀{es:List SV} {vs:List Value},ba β H s es vs->ba β H s (es.map (Iw k)) vs
 | [],vs,h=>by simpa[ba]using h
 | x::es,vs,h=>by simp only[ba]at h;obtain⟨v,r,rfl,h1,h2,h3⟩:=h;simp only[aw6,ba];exact⟨v,r,rfl,h1,OF h2,E2 h3⟩
theorem cM.HY(h:cM C β H M w)(k:Nat):cM C β H (Sv.HY k M) w:=by
 unfold Sv.HY;split
 ·exact h
 ·have at_:∀(i:Nat) (e:cJ),(rH k M)[i]?=some (some e)->∃e0:cJ,M[i]?=some (some e0)∧e=⟨e0.sz,Gz k e0.es,e0.fz⟩:=λi e hi=>by
   simp only[rH,List.getElem?_map]at hi;cases hm:M[i]? with
   | none=>rw[hm]at hi;cases hi
   | some oe =>
    rw[hm]at hi;cases oe with
    | none=>simp at hi
    | some e0=>simp at hi;exact⟨e0,rfl,hi.symm⟩
  refine⟨h.os,h.tape,h.output,h.size,h.frame,h.ext,h.new,h.inv,λi e hi=>?_,λi e d hi hd=>?_,λi i' e1 e2 d1 d2 hi ak ae af hb=>?_,λi hi=>h.fresh i (by simpa[rH]using hi),h.iK,h.fM⟩
  ·obtain⟨e0,aF,rfl⟩:=at_ i e hi;rcases h.dF i e0 aF with⟨h1,h2⟩ | ⟨d,cs,T,vs,h1,h2,h3,h4,h5,h6,h7,h8⟩ | ⟨d,ms,h1,h2,h3,h4⟩
   rotate_left 2
   ·refine .inr (.inr ⟨d,ms,h1,h2,h3,?_⟩);simp only[Gz];split
    ·exact FK h4
    ·exact h4
   ·exact .inl ⟨h1,by simp[Gz,h2,SV.aY]⟩
   ·refine .inr (.inl ⟨d,cs,T,vs,h1,h2,h3,h4,?_,h6,h7,λhf=>?_⟩)
    ·simp only[Gz];split
     ·exact E2 h5
     ·exact h5
    ·obtain⟨g1,g2⟩:=h8 hf;refine⟨g1,?_⟩;simp only[Gz];rw[if_neg (by rw[SV.iI k e0.es g2];simp)];exact g2
  ·obtain⟨e0,aF,rfl⟩:=at_ i e hi;exact h.own i e0 d aF hd
  ·obtain⟨e0,aF,rfl⟩:=at_ i e1 hi;obtain⟨bz,a6,rfl⟩:=at_ i' e2 ak;exact h.inj i i' e0 bz d1 d2 aF a6 ae af hb
theorem cM.BQ(h:cM C β H M w)(b:Option SV):cM C β H (Sv.BQ b M) w:=by
 unfold Sv.BQ;split
 ·exact h.HY _
 ·exact h
theorem Fg(hW:cM C β H M w){ts:Array TypeId}{ty:TypeId}{b x:Option SV}{u v:Value}{M':aC}{pk:List Nat}{r:Option SV}
  (h:jf P C.fx M ((ts[0]?).bind (an P)) ((ts[1]?).bind (an P)) b x=.m c M' pk r) (hc:c) (hb:∀s,b=some s->Den β H s u) (hx:∀s,x=some s->Den β H s v) :
  ∃k y z w' β',pk=[k]∧r=some y∧(axM ts ty #[u,v]).run P w=.ok z w'∧cM C β' H M' w'∧Den β' H y z ∧
   (∀j d,j≠k->β j=some d->β' j=some d)∧w.heap.size<=w'.heap.size∧∀b,b<w.heap.size->(∀d,β k=some (some d)->b≠d.b)->w'.heap[b]?=w.heap[b]?:=by
 unfold jf at h;replace hW:=hW.BQ b;generalize BQ b M=M at *;unfold lT at h;have ht:∀(i:Nat) (ti:TI),(ts[i]?).bind (an P)=some ti->∃t,ts[i]?=some t∧an P t=some ti:=λi ti hh=>by
  cases e:ts[i]? with
  | none=>rw[e]at hh;cases hh
  | some t=>rw[e]at hh;exact⟨t,rfl,hh⟩
 split at h
 ·rename_i el _ _ _ _ _ _ _ k n h0 h1;obtain⟨t0,h0,aG⟩:=ht _ _ h0;obtain⟨t1,h1,a7⟩:=ht _ _ h1;split at h
  ·rename_i te sz es ap he;split at h
   ·rename_i cc ys aI;simp only[cK.m.injEq]at h;obtain⟨rfl,rfl,rfl,rfl⟩:=h;obtain⟨c0,c1,c2,c3,c4,c5,c6,c7,c8⟩:=hc;subst c2;obtain⟨vs,e1,e2,e3⟩:=Bh hW aI c1 hx;obtain⟨z,w',β',g1,g2,g3,g4,g5,g6⟩:=xY (ty:=ty) hW (λd hi=>absurd hi c0) (aU he) c4 c5 c6 h0 h1 aG a7 ap c3 (hb _ rfl) e1 e2 e3 c7 c8;exact⟨k,_,z,w',β',rfl,rfl,g1,by rw[dL];exact g2,g3,g4,g5,g6⟩
   ·cases h
  ·cases h
 ·rename_i el _ _ _ _ _ _ _ h0 h1;obtain⟨t0,h0,aG⟩:=ht _ _ h0;obtain⟨t1,h1,a7⟩:=ht _ _ h1;split at h
  ·rename_i te ap;split at h
   ·rename_i cc ys aI;simp only[cK.m.injEq]at h;obtain⟨rfl,rfl,rfl,rfl⟩:=h;obtain⟨c1,c4,c5,c6,c7,c8⟩:=hc;obtain⟨vs,e1,e2,e3⟩:=Bh hW aI c1 hx;have bA:=hW.nil te.size;have hu:=hb _ rfl;simp only[Den]at hu;obtain⟨rfl, -⟩:=hu;have hM:(M++[some (⟨te.size,[],false⟩:cJ)])[M.length]?=some (some ⟨te.size,[],false⟩):=by simp
    have aJ:eU M.length (M++[some ⟨te.size,[],false⟩])=true:=by simp only[eU,List.all_append,Bool.and_eq_true]at c4 ⊢;exact⟨c4,rfl⟩
    have bB:Den (β.eK M.length none) H (.view M.length 0 ([]:List SV).length) (.slice none 0 0):=by simp only[Den];left;simp[cu.eK]
    have am:ba (β.eK M.length none) H te.size ys vs:=ba.mono (λ_ _ h=>h) _ _ _ (λj d _ hd=>iN hW _ j d hd) e1;obtain⟨z,w',β',g1,g2,g3,g4,g5,g6⟩:=xY (ty:=ty) bA (λd hi hd=>by have:=hW.iK _ d hi hd;rw[hW.fresh _ (axq _)]at this;cases this) hM aJ c5 c6 h0 h1 aG a7 ap rfl bB am e2 e3 (by simpa using c7) c8;refine⟨M.length,_,z,w',β',rfl,rfl,g1,?_,by simpa using g3,λj d hj hd=>g4 j d hj (iN hW _ j d hd),g5,λb bC _=>g6 b bC (λd hd=>?_)⟩
    ·have:(M++[some (⟨te.size,[],false⟩:cJ)]).set M.length (some ⟨te.size,[]++ys,false⟩)=M++[some ⟨te.size,ys,false⟩]:=by simp
     rw[this]at g2;exact g2
    ·simp[cu.eK]at hd
   ·cases h
  ·cases h
 ·cases h
theorem MN(hW:cM C β H M w){ts:Array TypeId}{ty:TypeId}{b x:Option SV}{u v:Value}{M':aC}{pk:List Nat}{r:Option SV}
  (h:D4 P M ((ts[0]?).bind (an P)) b x=.m c M' pk r) (hc:c) (hb:∀s,b=some s->Den β H s u) (hx:∀s,x=some s->Den β H s v) :
  ∃k i n y z w',pk=[]∧b=some (.view k i n)∧r=some y∧(axO ts ty #[u,v]).run P w=.ok z w'∧cM C β H M' w'∧Den β H y z ∧
   w'.heap.size=w.heap.size∧∀b,b<w.heap.size->(∀d,β k=some (some d)->b≠d.b)->w'.heap[b]?=w.heap[b]?:=by
 unfold D4 at h;split at h
 ·rename_i el s1 b1 z1 k n h0;obtain⟨t0,aL,aG⟩:∃t,ts[0]?=some t∧an P t=some ⟨.sl el,s1,b1,z1⟩:=by
   cases e:ts[0]? with
   | none=>rw[e]at h0;cases h0
   | some t=>rw[e]at h0;exact⟨t,rfl,h0⟩
  split at h
  ·rename_i te sz es ap he;split at h
   ·rename_i cc ys aI;simp only[cK.m.injEq]at h;obtain⟨rfl,rfl,rfl,rfl⟩:=h;obtain⟨c1,c2,c3,c4,c5⟩:=hc;subst c2 c4;obtain⟨vs,e1,e2,e3⟩:=Bh (P:=P) hW aI c1 hx;obtain⟨i0,d0,bo,ao⟩:=aH aG;obtain⟨ie,de,ze,ad⟩:=aH ap;obtain rfl:=mm ao.k;have hk:=aU he;have ai:=e1.length;have hf:=e3 w rfl;have hu:=hb _ rfl;simp only[Den]at hu;rcases axS es.length with hz | bD
    ·have a2:ys=[]:=axR.1 (by omega);have bE:es=[]:=axR.1 hz;subst a2 bE;have a3:vs=[]:=axR.1 (by rw[ai];simp);subst a3;have hM:aX M k (some ⟨te.size,[],false⟩)=M:=by
      rw[dL];have aK:k<M.length:=by
       rcases axT k M.length with h' | h'
       ·exact h'
       ·rw[awT h']at hk;cases hk
      apply axA;intro q;by_cases hq:k=q
      ·subst hq;rw[axP aK,hk]
      ·rw[axQ hq]
     refine⟨k,0,0,_,.int .i64 0,w,rfl,rfl,rfl,?_,by rw[hM];exact hW,by simp[Den,Value.oneCell'],rfl,λ_ _ _=>rfl⟩;have hex:∃base cap,u=.slice base 0 cap:=by
      rcases hu with⟨_,_,_,hu⟩ | ⟨d,c',o,_,_,_,_,hu⟩
      ·exact⟨none,0,hu⟩
      ·exact⟨_,c',hu⟩
     obtain⟨base,cap,rfl⟩:=hex;simp only[List.length_nil]at e2 hf;cases base<;>simp[axO,aL,ao.aQ,ad.fC,e2,hf,storeCells,goInt]
    ·rcases hu with⟨_,_,hu,_⟩ | ⟨d,c',o,g1,g2,g3,g4,rfl⟩
     ·omega
     ·have ho:=g4 (by omega);rw[axV]at ho;subst ho;rcases hW.dF k _ hk with⟨h4,_⟩ | ⟨d',cs,T,aD,h4,h5,h6,h7,h8,h9,av, -⟩ | ⟨d',ms,h4,h5,h6,h7⟩
      rotate_left 2
      ·rw[g1]at h4;simp only[awR]at h4;subst h4;rw[h5.2.1,h5.2.2]at g3;omega
      ·rw[g1]at h4;simp at h4
      ·rw[g1]at h4;simp only[awR]at h4;subst h4;simp only at h5 h8;have ar:=h8.length;have ah:∀x∈vs,x.oneCell'=true:=e1.Jq c5;obtain⟨w',aw,r1,r2,r3,r4⟩:=jU (P:=P) vs w 0 0 cs h6 (by rw[ai,c3];omega) ah;refine⟨k,0,es.length,_,.int .i64 es.length,w',rfl,rfl,rfl,?_,?_,by simp[Den,Value.oneCell'],r2.size,λb _ hb=>r2.there b (hb d g1)⟩
       ·rw[c3]at e2 hf;simp[axO,aL,ao.aQ,ad.fC,e2,hf,r1,goInt]
       ·rw[dL];refine hW.write hk rfl g1 h5 r2 (by rw[r3,h7]) e1 (by rw[ai,c3,r3];omega) (λq hq=>?_);rw[r4];simp only[axU,axW,Nat.sub_zero];rw[if_pos ⟨by omega,hq⟩]
   ·cases h
  ·cases h
 ·cases h
end
end Go.Sv

