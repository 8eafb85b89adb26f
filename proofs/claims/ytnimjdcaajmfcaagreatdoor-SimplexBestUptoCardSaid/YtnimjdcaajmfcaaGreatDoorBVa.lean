/- A text of the prover's own. -/
import Derived.Test.YtnimjdcaajmfcaaGreatDoorBVn
import Derived.Laws.AppendOwn
open Go.Builtin renaming lenOf->awr,firstCells->aws,append_->awt,zeroCells->awu,copy_->awv
open Option.some renaming injEq->ass
open List renaming getElem?_eq_none->asu,ext_getElem?->asU,getElem?_set_self->asY,getElem?_set_ne->asZ,length_eq_zero_iff->as0,length_append->asv,getElem?_append_left->asp,map_cons->asF
open Nat renaming mul_one->asL,eq_zero_or_pos->as1,mul_le_mul_right->asK,add_mul->asn,lt_or_ge->as2,add_zero->as3,le_refl->asN,zero_mul->as4,zero_add->as5
open Go.Value.slice renaming injEq->aww
namespace Go.Sv
open Go Go.RowKit
def eE(k:Nat)(M:aD):Bool:=M.all λoe=>match oe with
 | some e=>!SV.aZ k e.es
 | none=>true
def kU(M:aD)(te:TI)(x:Option SV):Option (Prop × List SV) :=
 match x with
 | some (.ro ys)=>some (ys≠[]->(aL ys 0).gJ=te.size∧(aL ys 0).aV=false,ys)
 | some (.view k i n) =>
  match aA M k with
  | some e=>some (e.sz=te.size∧i+n<=e.es.length,(e.es.drop i).take n)
  | none=>none
 | _=>none
def Mf(k:Nat)(x:SV):SV:=match x with
 | .agg l=>.agg (l.map λy=>if y.cj k then .any else y)
 | .bP l=>.bP l
 | x=>if x.cj k then .any else x
def GW(k:Nat)(x:SV):SV:=match x with
 | .agg l=>.agg (l.map λy=>if y.cj k then .any else y)
 | .bP l=>.bP (l.map (Mf k))
 | x=>if x.cj k then .any else x
def Fi(k:Nat)(es:List SV):List SV:=if SV.aZ k es then es.map (GW k) else es
def o4(k:Nat)(M:aD):aD:=M.map λoe=>oe.map λe=>⟨e.sz,Fi k e.es,e.fz⟩
def FD(k:Nat)(M:aD):aD:=if eE k M then M else o4 k M
def z6(b:Option SV)(M:aD):aD:=match b with
 | some (.view k _ _)=>FD k M
 | _=>M
theorem DW(b:Option SV)(M:aD):(z6 b M).length=M.length:=by
 unfold z6;split
 ·unfold FD o4;split<;>simp
 ·rfl
def kM(P:Program)(fx:List Nat)(M:aD)(ti aR:Option TI)(b x:Option SV):cB :=
 match ti,aR,b with
 | some ⟨.sl el,_,_,_⟩,some ⟨.sl _,_,_,_⟩,some (.view k 0 n) =>
  match an P el,aA M k with
  | some te,some ⟨sz,es,false⟩ =>
   match kU M te x with
   | some (c,ys)=>.m (k∉fx∧c∧n=es.length∧sz=te.size∧eE k M=true∧SV.aZ k ys=false∧(∀y∈ys,y.aV=false)∧(es.length+ys.length)*te.bytes<=70368744177664∧0<te.bytes)
     (aX M k (some ⟨sz,es++ys,false⟩)) [k] (some (.view k 0 (n+ys.length)))
   | none=>.stuck
  | _,_=>.stuck
 | some ⟨.sl el,_,_,_⟩,some ⟨.sl _,_,_,_⟩,some (.val (.slice none 0 0)) =>
  match an P el with
  | some te =>
   match kU M te x with
   | some (c,ys)=>.m (c∧eE M.length M=true∧SV.aZ M.length ys=false∧(∀y∈ys,y.aV=false)∧ys.length*te.bytes<=70368744177664∧0<te.bytes)
     (M++[some ⟨te.size,ys,false⟩]) [M.length] (some (.view M.length 0 ys.length))
   | none=>.stuck
  | _=>.stuck
 | _,_,_=>.stuck
def iD(P:Program)(fx:List Nat)(M:aD)(ti aR:Option TI)(b x:Option SV):cB:=kM P fx (z6 b M) ti aR b x
def B3(P:Program)(M:aD)(ti:Option TI)(b x:Option SV):cB :=
 match ti,b with
 | some ⟨.sl el,_,_,_⟩,some (.view k 0 n) =>
  match an P el,aA M k with
  | some te,some ⟨sz,es,false⟩ =>
   match kU M te x with
   | some (c,ys)=>.m (c∧n=es.length∧ys.length=n∧sz=te.size∧∀y∈ys,y.aV=false) (aX M k (some ⟨sz,ys,false⟩)) [] (some (.val (.int .i64 n)))
   | none=>.stuck
  | _,_=>.stuck
 | _,_=>.stuck
section
variable {P:Program} {C:Ctx} {β:ca} {H:Hp} {M:aD} {w:World} {c:Prop}
theorem yx(hW:cJ C β H M w){te:TI}{x:Option SV}{u:Value}{ys:List SV}(h:kU M te x=some (c,ys))(hc:c)(hx:∀s,x=some s->Den β H s u) :
  ∃vs,aW β H te.size ys vs∧(awr u).run P w=.ok ys.length w∧∀w',w'.heap=w.heap->(aws te.size ys.length u).run P w'=.ok vs.toArray w':=by
 unfold kU at h;split at h
 ·rename_i zs;simp only[ass,Prod.mk.injEq]at h;obtain⟨rfl,rfl⟩:=h;have hu:=hx _ rfl;simp only[Den]at hu;rcases hu with⟨rfl,a0,c0,rfl⟩ | ⟨b,o,c',s,cs,vs,rfl,g2,g3,g4,g5⟩
  ·refine⟨[],by simp[aW],by simp[awr],λw' _=>?_⟩;cases a0<;>simp[aws,loadCells,loadCellsFrom]
  ·obtain⟨T,z,hb⟩:=hW.inv b cs g3;have hl:=g4.length;have hs:s*1=te.size∨zs=[]:=by
    by_cases aj:zs=[]
    ·exact .inr aj
    ·obtain⟨g6,g7⟩:=hc aj;obtain⟨y,au,be, -⟩:=g4.get (i:=0) (List.length_pos_iff.2 aj);rw[<-g6,<-be,asL];exact .inl (au.QL g7)
   rcases hs with hs | rfl
   ·rw[asL]at hs;subst hs;refine⟨vs,aW.mono (λ_ _ h=>h) _ _ _ (λk d _ hd=>by simp[rz]at hd) g4,by simp[awr],λw' aS=>?_⟩;have al:=run_loadCells (P:=P) (w:=w') (o:=o) (by rw[aS];exact hb) vs g5;rw[hl]at al;simpa[aws]using al
   ·refine⟨[],by simp[aW],by simp[awr],λw' _=>?_⟩;simp[aws,loadCells,loadCellsFrom]
 ·rename_i k i n;split at h
  ·rename_i e he;simp only[ass,Prod.mk.injEq]at h;obtain⟨rfl,rfl⟩:=h;obtain⟨c1,c2⟩:=hc;have hu:=hx _ rfl;simp only[Den]at hu;have hlen:((e.es.drop i).take n).length=n:=by simp;omega
   rcases hu with⟨_,rfl,rfl,rfl⟩ | ⟨d,c',o,g1,g2,g3,g4,rfl⟩
   ·exact⟨[],by simp[aW],by simp[awr],λw' _=>by simp[aws]⟩
   ·rcases hW.dt k e (aT he)with⟨h4,_⟩ | ⟨d',cs,T,vs,h4,h5,h6,h7,h8,h9,av, -⟩ | ⟨d',ms,h4,h5,h6,h7⟩
    rotate_left 2
    ·rw[g1]at h4;simp only[ass]at h4;subst h4;obtain⟨-,bf,bg⟩:=h5;rw[bf,bg]at g3;have bh:n=0:=by omega
     subst bh;exact⟨[],by simp[aW],by simp[awr],λw' _=>by simp[aws,loadCells,loadCellsFrom]⟩
    ·rw[g1]at h4;simp at h4
    ·rw[g1]at h4;simp only[ass]at h4;subst h4;rw[c1]at h8;have hl:=h8.length;refine⟨(vs.drop (i*te.size)).take (n*te.size),(h8.drop i).take n,by simp[awr,hlen],λw' aS=>?_⟩;rw[hlen];rcases as1 n with rfl | hn
     ·simp[aws,loadCells,loadCellsFrom]
     ·have ho:=g4 (by omega);have a9:((vs.drop (i*te.size)).take (n*te.size)).length=n*te.size:=by
       have:(i+n)*te.size<=e.es.length*te.size:=asK _ c2;rw[asn]at this;simp;omega
      have al:=run_loadCells (P:=P) (w:=w') (o:=o) (by rw[aS];exact h6) ((vs.drop (i*te.size)).take (n*te.size)) (λq hq=>by rw[a9]at hq;rw[List.getElem?_take_of_lt hq,List.getElem?_drop,ho,h5,c1];refine av _ ?_;have:(i+n)*te.size<=e.es.length*te.size:=asK _ c2;rw[asn]at this;omega)
      rw[a9]at al;simpa[aws]using al
  ·cases h
 ·cases h
theorem aW.FJ{s:Nat}:∀{l:List SV} {vs:List Value},aW β H s l vs->(∀x∈l,x.aV=false)->∀v∈vs,v.oneCell'=true
 | [],vs,h,_,v,hv=>by simp only[aW]at h;simp[h]at hv
 | x::l,vs,h,ht,v,hv=>by
  simp only[aW]at h;obtain⟨u,r,rfl,h2,h3,h4⟩:=h;rcases List.mem_append.1 hv with hv | hv
  ·exact(h3.sa (yI (ht x (by simp)))).FJ v hv
  ·exact h4.FJ (λy hy=>ht y (by simp[hy])) v hv
theorem E5{k:Nat}(h:eE k M=true){i:Nat}{e:cz}(hi:M[i]?=some (some e)):SV.aZ k e.es=false:=by simp only[eE,List.all_eq_true]at h;have:=h _ (List.mem_of_getElem? hi);simpa using this
theorem cJ.rebind(h:cJ C β H M w){k:Nat}(aU:∀d,k∈C.fx->C.b0 k≠some d){e:cz}(hk:M[k]?=some (some e))(hn:eE k M=true){cs:Array Value}{T:TypeId}{es:List SV}{vs:List Value}
  (hd:aW β H e.sz es vs) (hu:SV.aZ k es=false) (hl:vs.length<=cs.size) (hc:∀i,i<vs.length->cs[i]?=vs[i]?) :
  cJ C (β.ef k (some ⟨w.heap.size,cs.size,e.sz⟩)) H (M.set k (some ⟨e.sz,es,false⟩)) (w.alloc (.cells cs T)) where
 os:=h.os
 tape:=h.tape
 output:=h.output
 size:=by have:=h.size;simp;omega
 frame b hb hx:=by rw[heap_alloc_old (by have:=h.size;omega)];exact h.frame b hb hx
 ext:=h.ext
 new:=h.new
 inv b aw hb:=by obtain⟨T',z,h'⟩:=h.inv b aw hb;exact⟨T',z,by rw[heap_alloc_old (jq h')];exact h'⟩
 dt i e' hi:=by
  have ac:∀j,j≠k->∀d,β j=some d->(β.ef k (some ⟨w.heap.size,cs.size,e.sz⟩)) j=some d:=λj hj d hd=>by simp only[ca.ef];rw[if_neg hj];exact hd
  rcases getElem?_set_cases hi with⟨rfl,he,_⟩ | ⟨aj,ak⟩
  ·simp only[ass]at he;subst he;exact .inr (.inl ⟨_,cs,T,vs,by simp[ca.ef];rfl,rfl,heap_alloc_new,rfl,aW.mono (λ_ _ h=>h) _ _ _ (λj d hj=>ac j (λe=>by subst e;simp only at hj;rw[hu]at hj;cases hj) d) hd,hl,hc,λhf=>by cases hf⟩)
  ·have aJ:=E5 hn ak;rcases h.dt i e' ak with⟨h1,h2⟩ | ⟨d,aw,T',bi,h1,h2,h3,h4,h5,h6,h7,h8⟩ | ⟨d,ms,h1,h2,h3,h4⟩
   ·exact .inl ⟨ac i aj _ h1,h2⟩
   ·exact .inr (.inl ⟨d,aw,T',bi,ac i aj _ h1,h2,by rw[heap_alloc_old (jq h3)];exact h3,h4,aW.mono (λ_ _ h=>h) _ _ _ (λj d hj=>ac j (λe=>by subst e;rw[aJ]at hj;cases hj) d) h5,h6,h7,h8⟩)
   ·exact .inr (.inr ⟨d,ms,ac i aj _ h1,h2,by rw[heap_alloc_old (jq h3)];exact h3,cN.mono (λ_ _ h=>h) _ _ _ (λj d hj=>ac j (λe=>by subst e;rw[aJ]at hj;cases hj) d) h4⟩)
 own i e' d hi ay:=by
  rcases getElem?_set_cases hi with⟨rfl,he,_⟩ | ⟨aj,ak⟩
  ·simp only[ca.ef,if_true,ass]at ay;subst ay;refine⟨λ_=>?_,.inl h.size⟩;cases hH:H w.heap.size with
   | none=>rfl
   | some aw=>have:=h.aP hH;omega
  ·simp only[ca.ef]at ay;rw[if_neg aj]at ay;exact h.own i e' d ak ay
 inj i i' e1 e2 d1 d2 hi ak ae af hb:=by
  by_cases am:i=k<;>by_cases ax:i'=k
  ·rw[am,ax]
  ·subst am;simp only[ca.ef]at ae af;simp only[if_true,ass]at ae;rw[if_neg ax]at af;subst ae;rcases getElem?_set_cases ak with⟨rfl,_,_⟩ | ⟨_,az⟩
   ·exact absurd rfl ax
   ·have:=h.lt az af;simp only at hb;omega
  ·subst ax;simp only[ca.ef]at ae af;simp only[if_true,ass]at af;rw[if_neg am]at ae;subst af;rcases getElem?_set_cases hi with⟨rfl,_,_⟩ | ⟨_,az⟩
   ·exact absurd rfl am
   ·have:=h.lt az ae;simp only at hb;omega
  ·simp only[ca.ef]at ae af;rw[if_neg am]at ae;rw[if_neg ax]at af;rcases getElem?_set_cases hi with⟨rfl,_,_⟩ | ⟨_,az⟩
   ·exact absurd rfl am
   ·rcases getElem?_set_cases ak with⟨rfl,_,_⟩ | ⟨_,aY⟩
    ·exact absurd rfl ax
    ·exact h.inj i i' e1 e2 d1 d2 az aY ae af hb
 fresh i hi:=by
  simp only[List.length_set]at hi;have aK:k<M.length:=by
   rcases as2 k M.length with h' | h'
   ·exact h'
   ·rw[asu h']at hk;cases hk
  simp only[ca.ef];rw[if_neg (by omega)];exact h.fresh i hi
 im i d hi hd:=by simp only[ca.ef];rw[if_neg (λe=>by subst e;exact aU d hi hd)];exact h.im i d hi hd
 fT:=h.fT
theorem wa(hW:cJ C β H M w){k:Nat}(aU:∀d,k∈C.fx->C.b0 k≠some d){sz:Nat}{es ys:List SV}(hk:M[k]?=some (some ⟨sz,es,false⟩))(hn:eE k M=true)(bj:SV.aZ k ys=false)(bk:∀y∈ys,y.aV=false)
  {ts:Array TypeId} {t0 t1 el bl ty:TypeId} {te:TI} {s0 b0 s1 b1:Nat} {z0 z1:List SV} (h0:ts[0]?=some t0) (h1:ts[1]?=some t1)
  (aM:an P t0=some ⟨.sl el,s0,b0,z0⟩) (bm:an P t1=some ⟨.sl bl,s1,b1,z1⟩) (ap:an P el=some te) (uh:sz=te.size)
  {u v:Value} (hu:Den β H (.view k 0 es.length) u) {vs:List Value} (aN:aW β H te.size ys vs) (aQ:(awr v).run P w=.ok ys.length w)
  (a1:∀w',w'.heap=w.heap->(aws te.size ys.length v).run P w'=.ok vs.toArray w')
  (hb:(es.length+ys.length)*te.bytes<=70368744177664) (bn:0<te.bytes) :
  ∃z w' β',(awt ts ty #[u,v]).run P w=.ok z w'∧cJ C β' H (M.set k (some ⟨sz,es++ys,false⟩)) w'∧Den β' H (.view k 0 (es.length+ys.length)) z ∧
   (∀j d,j≠k->β j=some d->β' j=some d)∧w.heap.size<=w'.heap.size∧∀b,b<w.heap.size->(∀d,β k=some (some d)->b≠d.b)->w'.heap[b]?=w.heap[b]?:=by
 subst uh;obtain⟨i0,d0,bo,ao⟩:=aF aM;obtain⟨i1,d1,bG,au⟩:=aF bm;obtain⟨ie,de,ze,ad⟩:=aF ap;obtain rfl:=k6 ao.k;obtain rfl:=k6 au.k;obtain⟨zv,bH,bI,bp⟩:=qu ad β H;have aq:ie.bytes=te.bytes:=ad.bytes.symm;have ba:es.length+ys.length<=70368744177664:=by
  calc es.length+ys.length=(es.length+ys.length)*1:=(asL _).symm
   _<=(es.length+ys.length)*te.bytes:=Nat.mul_le_mul_left _ bn
   _<=_:=hb
 have ai:=aN.length;have aB:ys=[]->M.set k (some ⟨te.size,es++ys,false⟩)=M:=λhy=>by
  subst hy;have aK:k<M.length:=by
   rcases as2 k M.length with h' | h'
   ·exact h'
   ·rw[asu h']at hk;cases hk
  apply asU;intro q;by_cases hq:k=q
  ·subst hq;rw[asY aK,hk];simp
  ·rw[asZ hq]
 have bJ:Nu P el=te.size:=by simp[Nu,ad.info,ad.size]
 have hex:∃base cap,u=.slice base es.length cap∧es.length<=cap:=by
  simp only[Den]at hu;rcases hu with⟨_,_,hl,hu⟩ | ⟨d,c',o,_,bq,_,_,hu⟩
  ·exact⟨none,0,by rw[hl];exact hu,by omega⟩
  ·exact⟨_,c',hu,bq⟩
 obtain⟨base,cap,rfl,a2⟩:=hex;rcases as1 ys.length with ag | bb
 ·have a3:ys=[]:=as0.1 ag;have a4:vs=[]:=as0.1 (by rw[ai,ag];simp);have hf:=a1 w rfl;rw[a4,ag]at hf;rw[ag]at aQ;refine⟨.slice base es.length cap,w,β,?_,by rw[aB a3];exact hW,by rw[ag,as3];exact hu,λ_ _ _ h=>h,asN _,λ_ _ _=>rfl⟩;cases base<;>simp[awt,h0,h1,ao.aO,au.aO,ad.ff,aQ,a2,hf,storeCells]
 ·by_cases ab:es.length+ys.length<=cap
  ·-- in place
   simp only[Den]at hu;rcases hu with⟨_,_,_,hu⟩ | ⟨d,c',o,g1,g2,g3,g4,hu⟩
   ·simp only[aww]at hu;omega
   ·simp only[aww]at hu;obtain⟨rfl, -,rfl⟩:=hu;have ho:=g4 (by omega);rw[as4]at ho;subst ho;rcases hW.dt k _ hk with⟨h4,_⟩ | ⟨d',cs,T,aC,h4,h5,h6,h7,h8,h9,av, -⟩ | ⟨d',ms,h4,h5,h6,h7⟩
    rotate_left 2
    ·rw[g1]at h4;simp only[ass]at h4;subst h4;rw[h5.2.1,h5.2.2]at g3;omega
    ·rw[g1]at h4;simp at h4
    ·rw[g1]at h4;simp only[ass]at h4;subst h4;simp only at h5 h8;have ar:=h8.length;have aE:(es.length+ys.length)*te.size<=cs.size:=by
      rw[h7]
      calc (es.length+ys.length)*te.size<=cap*te.size:=asK _ ab
       _=(0+cap)*d.sz:=by rw[as5,h5]
       _<=d.FM:=g3
     rw[asn]at aE;have ah:∀x∈vs,x.oneCell'=true:=aN.FJ bk;obtain⟨w',aw,r1,r2,r3,r4⟩:=jf (P:=P) vs w (es.length*te.size) 0 cs h6 (by rw[ai];omega) ah;have hf:=a1 w rfl;refine⟨.slice (some ⟨d.b,0,none⟩) (es.length+ys.length) cap,w',β,?_,?_,?_,λ_ _ _ h=>h,by rw[r2.size];exact asN _,λb _ hb=>r2.there b (hb d g1)⟩
     ·simp[awt,h0,h1,ao.aO,au.aO,ad.ff,aQ,ab,hf,Addr.add_eq,r1]
     ·refine hW.write hk rfl g1 h5 r2 (by rw[r3,h7]) (h8.append aN) (by rw[asv,ar,ai,r3];omega) (λq hq=>?_);rw[asv,ar,ai]at hq;rw[r4];simp only[as3];by_cases bK:q<es.length*te.size
      ·rw[if_neg (by omega),asp (by omega)];exact av q (by omega)
      ·rw[if_pos (by rw[ai];omega),List.getElem?_append_right (by omega),ar]
     ·simp only[Den];right;exact⟨d,cap,0,g1,ab,g3,λ_=>by simp,rfl⟩
  ·-- a new block
   have hold:∃aa:List Value,aW β H te.size es aa∧(aws te.size es.length (.slice base es.length cap)).run P w.drew=.ok aa.toArray w.drew:=by
    simp only[Den]at hu;rcases hu with⟨_,_,hl,hu⟩ | ⟨d,c',o,g1,g2,g3,g4,hu⟩
    ·simp only[aww]at hu;obtain⟨rfl, -,rfl⟩:=hu;have:es=[]:=as0.1 hl;subst this;exact⟨[],by simp[aW],by simp[aws]⟩
    ·simp only[aww]at hu;obtain⟨rfl, -,rfl⟩:=hu;rcases hW.dt k _ hk with⟨h4,_⟩ | ⟨d',cs,T,aC,h4,h5,h6,h7,h8,h9,av, -⟩ | ⟨d',ms,h4,h5,h6,h7⟩
     rotate_left 2
     ·rw[g1]at h4;simp only[ass]at h4;subst h4;rw[h5.2.1,h5.2.2]at g3;have:es=[]:=as0.1 (by omega);subst this;exact⟨[],by simp[aW],by simp[aws,loadCells,loadCellsFrom]⟩
     ·rw[g1]at h4;simp at h4
     ·rw[g1]at h4;simp only[ass]at h4;subst h4;simp only at h5 h8;have ar:=h8.length;refine⟨aC,h8,?_⟩;rcases as1 es.length with he | he
      ·have:aC=[]:=as0.1 (by rw[ar,he];simp);subst this;rw[he];simp[aws,loadCells,loadCellsFrom]
      ·have ho:=g4 (by omega);rw[as4]at ho;subst ho;have al:=run_loadCells (P:=P) (w:=w.drew) (o:=0) (T:=T) (z:=(0,0)) (b:=d.b) h6 aC (λq hq=>by rw[as5];exact av q hq);rw[ar]at al;simpa[aws]using al
   obtain⟨aa,bc,br⟩:=hold;have bs:=bc.length;have hf:=a1 w.drew rfl;have bt:¬(281474976710656<Builtin.nextslicecap (es.length+ys.length) cap*ie.bytes):=by have:=growslice_fits (need:=es.length+ys.length) (old:=cap) (bytes:=ie.bytes) (by omega) (by rw[aq];omega);omega
   have bu:¬(9223372036854775807<(es.length:Int)+(ys.length:Int)):=by omega
   have bv:Den (β.ef k (some ⟨w.heap.size,(aa++vs).length+(grownCap w (es.length+ys.length) cap el - (es.length+ys.length))*ze.cells.size,te.size⟩)) H (.view k 0 (es.length+ys.length))
     (.slice (some ⟨w.heap.size,0,none⟩) (es.length+ys.length) (grownCap w (es.length+ys.length) cap el)):=by
    simp only[Den];right;refine⟨_,grownCap w (es.length+ys.length) cap el,0,by simp[ca.ef];rfl,grownCap_ge _ _ _ _,?_,λ_=>by simp,rfl⟩;have bL:=grownCap_ge w (es.length+ys.length) cap el;simp only[as5,bs,ai,bp];rw[<-asn,<-asn];exact asK _ (by omega)
   have a5:SV.aZ k es=false:=E5 hn hk;have bd:=(hW.drew).rebind (T:=el) aU hk hn (cs:=aa.toArray++vs.toArray++awu ze.cells (grownCap w (es.length+ys.length) cap el - (es.length+ys.length)))
    (bc.append aN) (by
     have:∀a b:List SV,SV.aZ k (a++b)=(SV.aZ k a||SV.aZ k b):=λa b=>by
      induction a with
      | nil=>simp[SV.aZ]
      | cons x a ih=>simp[SV.aZ,ih,Bool.or_assoc]
     rw[this,a5,bj];rfl) (by simp) (λq hq=>by
     rw[<-Array.getElem?_toList];simp only[Array.toList_append];rw[asp hq])
   have a6:(aa.toArray++vs.toArray++awu ze.cells (grownCap w (es.length+ys.length) cap el - (es.length+ys.length))).size =
     (aa++vs).length+(grownCap w (es.length+ys.length) cap el - (es.length+ys.length))*ze.cells.size:=by
    simp[size_zeroCells]
   rw[a6]at bd;refine⟨.slice (some ⟨w.heap.size,0,none⟩) (es.length+ys.length) (grownCap w (es.length+ys.length) cap el),_,_,?_,bd,bv,λj d hj hd=>by simp only[ca.ef];rw[if_neg hj];exact hd,by simp,λb hb _=>?_⟩
   ·simp[awt,h0,h1,ao.aO,au.aO,ad.ff,ad.xj,ad.kJ,aQ,ab,hf,br,bt,bu,Question.forced,newRow,grownCap];congr 2;apply Array.ext';simp[List.append_assoc]
   ·rw[heap_alloc_old (by simpa using hb)];rfl
theorem yc{k:Nat}:∀{l:List SV} {vs:List Value},bE β H l vs->bE β H (l.map λy=>if y.cj k then .any else y) vs
 | [],vs,h=>by simpa[bE]using h
 | y::l,vs,h=>by
  simp only[bE]at h;obtain⟨v,r,rfl,h1,h2,h3⟩:=h;simp only[asF,bE];refine⟨v,r,rfl,?_,?_,yc h3⟩
  ·split
   ·rfl
   ·exact h1
  ·split
   ·simp only[Den];exact Den.one h2 h1
   ·exact h2
theorem EB{k:Nat}:∀{x:SV} {v:Value},Den β H x v->Den β H (Mf k x) v:=by
 intro x v h;unfold Mf;split
 ·rename_i l;simp only[Den]at h ⊢;obtain⟨vs,rfl,h⟩:=h;exact⟨vs,rfl,yc h⟩
 ·exact h
 ·rename_i bw bx;split
  ·simp only[Den];refine Den.one h ?_;cases x<;>simp_all [SV.one,SV.cj]
  ·exact h
theorem DG{k:Nat}:∀{l:List SV} {vs:List Value},bY β H l vs->bY β H (l.map (Mf k)) vs
 | [],vs,h=>by simpa[bY]using h
 | y::l,vs,h=>by simp only[bY]at h;obtain⟨v,r,rfl,h2,h3⟩:=h;simp only[asF,bY];exact⟨v,r,rfl,EB h2,DG h3⟩
theorem LP{k:Nat}:∀{x:SV} {v:Value},Den β H x v->Den β H (GW k x) v:=by
 intro x v h;unfold GW;split
 ·rename_i l;simp only[Den]at h ⊢;obtain⟨vs,rfl,h⟩:=h;exact⟨vs,rfl,yc h⟩
 ·simp only[Den]at h ⊢;obtain⟨vs,rfl,h⟩:=h;exact⟨vs,rfl,DG h⟩
 ·rename_i bw bx;split
  ·simp only[Den];refine Den.one h ?_;cases x<;>simp_all [SV.one,SV.cj]
  ·exact h
theorem Fe{k:Nat}:∀{es:List SV} {ms:List MapEntry} {n:Nat},cN β H es ms n->cN β H (es.map (GW k)) ms n
 | [],ms,n,h=>by simpa[cN]using h
 | x::es,ms,n,h=>by simp only[cN]at h;obtain⟨key,y,m,r,rfl,h2,h3,h4,h5,h6,h7⟩:=h;simp only[asF,cN];exact⟨key,Mf k y,m,r,rfl,h2,h3,h4,h5,EB h6,Fe h7⟩
theorem Ep{k s:Nat}:∀{es:List SV} {vs:List Value},aW β H s es vs->aW β H s (es.map (GW k)) vs
 | [],vs,h=>by simpa[aW]using h
 | x::es,vs,h=>by simp only[aW]at h;obtain⟨v,r,rfl,h1,h2,h3⟩:=h;simp only[asF,aW];exact⟨v,r,rfl,h1,LP h2,Ep h3⟩
theorem cJ.FD(h:cJ C β H M w)(k:Nat):cJ C β H (Sv.FD k M) w:=by
 unfold Sv.FD;split
 ·exact h
 ·have at_:∀(i:Nat) (e:cz),(o4 k M)[i]?=some (some e)->∃e0:cz,M[i]?=some (some e0)∧e=⟨e0.sz,Fi k e0.es,e0.fz⟩:=λi e hi=>by
   simp only[o4,List.getElem?_map]at hi;cases hm:M[i]? with
   | none=>rw[hm]at hi;cases hi
   | some oe =>
    rw[hm]at hi;cases oe with
    | none=>simp at hi
    | some e0=>simp at hi;exact⟨e0,rfl,hi.symm⟩
  refine⟨h.os,h.tape,h.output,h.size,h.frame,h.ext,h.new,h.inv,λi e hi=>?_,λi e d hi hd=>?_,λi i' e1 e2 d1 d2 hi ak ae af hb=>?_,λi hi=>h.fresh i (by simpa[o4]using hi),h.im,h.fT⟩
  ·obtain⟨e0,aG,rfl⟩:=at_ i e hi;rcases h.dt i e0 aG with⟨h1,h2⟩ | ⟨d,cs,T,vs,h1,h2,h3,h4,h5,h6,h7,h8⟩ | ⟨d,ms,h1,h2,h3,h4⟩
   rotate_left 2
   ·refine .inr (.inr ⟨d,ms,h1,h2,h3,?_⟩);simp only[Fi];split
    ·exact Fe h4
    ·exact h4
   ·exact .inl ⟨h1,by simp[Fi,h2,SV.aZ]⟩
   ·refine .inr (.inl ⟨d,cs,T,vs,h1,h2,h3,h4,?_,h6,h7,λhf=>?_⟩)
    ·simp only[Fi];split
     ·exact Ep h5
     ·exact h5
    ·obtain⟨g1,g2⟩:=h8 hf;refine⟨g1,?_⟩;simp only[Fi];rw[if_neg (by rw[SV.gL k e0.es g2];simp)];exact g2
  ·obtain⟨e0,aG,rfl⟩:=at_ i e hi;exact h.own i e0 d aG hd
  ·obtain⟨e0,aG,rfl⟩:=at_ i e1 hi;obtain⟨bz,a7,rfl⟩:=at_ i' e2 ak;exact h.inj i i' e0 bz d1 d2 aG a7 ae af hb
theorem cJ.z6(h:cJ C β H M w)(b:Option SV):cJ C β H (Sv.z6 b M) w:=by
 unfold Sv.z6;split
 ·exact h.FD _
 ·exact h
theorem EO(hW:cJ C β H M w){ts:Array TypeId}{ty:TypeId}{b x:Option SV}{u v:Value}{M':aD}{pk:List Nat}{r:Option SV}
  (h:iD P C.fx M ((ts[0]?).bind (an P)) ((ts[1]?).bind (an P)) b x=.m c M' pk r) (hc:c) (hb:∀s,b=some s->Den β H s u) (hx:∀s,x=some s->Den β H s v) :
  ∃k y z w' β',pk=[k]∧r=some y∧(awt ts ty #[u,v]).run P w=.ok z w'∧cJ C β' H M' w'∧Den β' H y z ∧
   (∀j d,j≠k->β j=some d->β' j=some d)∧w.heap.size<=w'.heap.size∧∀b,b<w.heap.size->(∀d,β k=some (some d)->b≠d.b)->w'.heap[b]?=w.heap[b]?:=by
 unfold iD at h;replace hW:=hW.z6 b;generalize z6 b M=M at *;unfold kM at h;have ht:∀(i:Nat) (ti:TI),(ts[i]?).bind (an P)=some ti->∃t,ts[i]?=some t∧an P t=some ti:=λi ti hh=>by
  cases e:ts[i]? with
  | none=>rw[e]at hh;cases hh
  | some t=>rw[e]at hh;exact⟨t,rfl,hh⟩
 split at h
 ·rename_i el _ _ _ _ _ _ _ k n h0 h1;obtain⟨t0,h0,aH⟩:=ht _ _ h0;obtain⟨t1,h1,a8⟩:=ht _ _ h1;split at h
  ·rename_i te sz es ap he;split at h
   ·rename_i cc ys aI;simp only[cB.m.injEq]at h;obtain⟨rfl,rfl,rfl,rfl⟩:=h;obtain⟨c0,c1,c2,c3,c4,c5,c6,c7,c8⟩:=hc;subst c2;obtain⟨vs,e1,e2,e3⟩:=yx hW aI c1 hx;obtain⟨z,w',β',g1,g2,g3,g4,g5,g6⟩:=wa (ty:=ty) hW (λd hi=>absurd hi c0) (aT he) c4 c5 c6 h0 h1 aH a8 ap c3 (hb _ rfl) e1 e2 e3 c7 c8;exact⟨k,_,z,w',β',rfl,rfl,g1,by rw[dI];exact g2,g3,g4,g5,g6⟩
   ·cases h
  ·cases h
 ·rename_i el _ _ _ _ _ _ _ h0 h1;obtain⟨t0,h0,aH⟩:=ht _ _ h0;obtain⟨t1,h1,a8⟩:=ht _ _ h1;split at h
  ·rename_i te ap;split at h
   ·rename_i cc ys aI;simp only[cB.m.injEq]at h;obtain⟨rfl,rfl,rfl,rfl⟩:=h;obtain⟨c1,c4,c5,c6,c7,c8⟩:=hc;obtain⟨vs,e1,e2,e3⟩:=yx hW aI c1 hx;have bA:=hW.nil te.size;have hu:=hb _ rfl;simp only[Den]at hu;obtain⟨rfl, -⟩:=hu;have hM:(M++[some (⟨te.size,[],false⟩:cz)])[M.length]?=some (some ⟨te.size,[],false⟩):=by simp
    have aJ:eE M.length (M++[some ⟨te.size,[],false⟩])=true:=by simp only[eE,List.all_append,Bool.and_eq_true]at c4 ⊢;exact⟨c4,rfl⟩
    have bB:Den (β.ef M.length none) H (.view M.length 0 ([]:List SV).length) (.slice none 0 0):=by simp only[Den];left;simp[ca.ef]
    have am:aW (β.ef M.length none) H te.size ys vs:=aW.mono (λ_ _ h=>h) _ _ _ (λj d _ hd=>ik hW _ j d hd) e1;obtain⟨z,w',β',g1,g2,g3,g4,g5,g6⟩:=wa (ty:=ty) bA (λd hi hd=>by have:=hW.im _ d hi hd;rw[hW.fresh _ (asN _)]at this;cases this) hM aJ c5 c6 h0 h1 aH a8 ap rfl bB am e2 e3 (by simpa using c7) c8;refine⟨M.length,_,z,w',β',rfl,rfl,g1,?_,by simpa using g3,λj d hj hd=>g4 j d hj (ik hW _ j d hd),g5,λb bC _=>g6 b bC (λd hd=>?_)⟩
    ·have:(M++[some (⟨te.size,[],false⟩:cz)]).set M.length (some ⟨te.size,[]++ys,false⟩)=M++[some ⟨te.size,ys,false⟩]:=by simp
     rw[this]at g2;exact g2
    ·simp[ca.ef]at hd
   ·cases h
  ·cases h
 ·cases h
theorem I5(hW:cJ C β H M w){ts:Array TypeId}{ty:TypeId}{b x:Option SV}{u v:Value}{M':aD}{pk:List Nat}{r:Option SV}
  (h:B3 P M ((ts[0]?).bind (an P)) b x=.m c M' pk r) (hc:c) (hb:∀s,b=some s->Den β H s u) (hx:∀s,x=some s->Den β H s v) :
  ∃k i n y z w',pk=[]∧b=some (.view k i n)∧r=some y∧(awv ts ty #[u,v]).run P w=.ok z w'∧cJ C β H M' w'∧Den β H y z ∧
   w'.heap.size=w.heap.size∧∀b,b<w.heap.size->(∀d,β k=some (some d)->b≠d.b)->w'.heap[b]?=w.heap[b]?:=by
 unfold B3 at h;split at h
 ·rename_i el s1 b1 z1 k n h0;obtain⟨t0,aM,aH⟩:∃t,ts[0]?=some t∧an P t=some ⟨.sl el,s1,b1,z1⟩:=by
   cases e:ts[0]? with
   | none=>rw[e]at h0;cases h0
   | some t=>rw[e]at h0;exact⟨t,rfl,h0⟩
  split at h
  ·rename_i te sz es ap he;split at h
   ·rename_i cc ys aI;simp only[cB.m.injEq]at h;obtain⟨rfl,rfl,rfl,rfl⟩:=h;obtain⟨c1,c2,c3,c4,c5⟩:=hc;subst c2 c4;obtain⟨vs,e1,e2,e3⟩:=yx (P:=P) hW aI c1 hx;obtain⟨i0,d0,bo,ao⟩:=aF aH;obtain⟨ie,de,ze,ad⟩:=aF ap;obtain rfl:=k6 ao.k;have hk:=aT he;have ai:=e1.length;have hf:=e3 w rfl;have hu:=hb _ rfl;simp only[Den]at hu;rcases as1 es.length with hz | bD
    ·have a3:ys=[]:=as0.1 (by omega);have bF:es=[]:=as0.1 hz;subst a3 bF;have a4:vs=[]:=as0.1 (by rw[ai];simp);subst a4;have hM:aX M k (some ⟨te.size,[],false⟩)=M:=by
      rw[dI];have aK:k<M.length:=by
       rcases as2 k M.length with h' | h'
       ·exact h'
       ·rw[asu h']at hk;cases hk
      apply asU;intro q;by_cases hq:k=q
      ·subst hq;rw[asY aK,hk]
      ·rw[asZ hq]
     refine⟨k,0,0,_,.int .i64 0,w,rfl,rfl,rfl,?_,by rw[hM];exact hW,by simp[Den,Value.oneCell'],rfl,λ_ _ _=>rfl⟩;have hex:∃base cap,u=.slice base 0 cap:=by
      rcases hu with⟨_,_,_,hu⟩ | ⟨d,c',o,_,_,_,_,hu⟩
      ·exact⟨none,0,hu⟩
      ·exact⟨_,c',hu⟩
     obtain⟨base,cap,rfl⟩:=hex;simp only[List.length_nil]at e2 hf;cases base<;>simp[awv,aM,ao.aO,ad.ff,e2,hf,storeCells,goInt]
    ·rcases hu with⟨_,_,hu,_⟩ | ⟨d,c',o,g1,g2,g3,g4,rfl⟩
     ·omega
     ·have ho:=g4 (by omega);rw[as4]at ho;subst ho;rcases hW.dt k _ hk with⟨h4,_⟩ | ⟨d',cs,T,aC,h4,h5,h6,h7,h8,h9,av, -⟩ | ⟨d',ms,h4,h5,h6,h7⟩
      rotate_left 2
      ·rw[g1]at h4;simp only[ass]at h4;subst h4;rw[h5.2.1,h5.2.2]at g3;omega
      ·rw[g1]at h4;simp at h4
      ·rw[g1]at h4;simp only[ass]at h4;subst h4;simp only at h5 h8;have ar:=h8.length;have ah:∀x∈vs,x.oneCell'=true:=e1.FJ c5;obtain⟨w',aw,r1,r2,r3,r4⟩:=jf (P:=P) vs w 0 0 cs h6 (by rw[ai,c3];omega) ah;refine⟨k,0,es.length,_,.int .i64 es.length,w',rfl,rfl,rfl,?_,?_,by simp[Den,Value.oneCell'],r2.size,λb _ hb=>r2.there b (hb d g1)⟩
       ·rw[c3]at e2 hf;simp[awv,aM,ao.aO,ad.ff,e2,hf,r1,goInt]
       ·rw[dI];refine hW.write hk rfl g1 h5 r2 (by rw[r3,h7]) e1 (by rw[ai,c3,r3];omega) (λq hq=>?_);rw[r4];simp only[as3,as5,Nat.sub_zero];rw[if_pos ⟨by omega,hq⟩]
   ·cases h
  ·cases h
 ·cases h
end
end Go.Sv

