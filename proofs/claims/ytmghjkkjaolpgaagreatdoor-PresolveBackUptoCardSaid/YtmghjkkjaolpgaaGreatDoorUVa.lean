/- A text of the prover's own. -/
import Derived.Test.YtmghjkkjaolpgaaGreatDoorUVn
import Derived.Laws.AppendOwn
open Option.some renaming injEq→al0
open List renaming getElem?_eq_none→al2,ext_getElem?→amr,getElem?_set_self→amv,getElem?_set_ne→amw,length_eq_zero_iff→amx,length_append→al3,getElem?_append_left→alX,map_cons→amc
open Nat renaming mul_one→ami,eq_zero_or_pos→amy,mul_le_mul_right→amh,add_mul→alV,lt_or_ge→amz,add_zero→amA,le_refl→amk,zero_mul→amB,zero_add→amC
namespace Go.Sv
open Go Go.RowKit
def fR(k:Nat)(M:aJ):Bool:=M.all fun oe=>match oe with
 | some e=>!SV.aX k e.es
 | none=>true
def ke(M:aJ)(te:TI)(x:Option SV):Option (Prop × List SV) :=
 match x with
 | some (.ro ys)=>some (ys≠[]→(aA ys 0).fj=te.size∧(aA ys 0).aM=false,ys)
 | some (.view k i n) =>
  match ao M k with
  | some e=>some (e.sz=te.size∧i+n≤e.es.length,(e.es.drop i).take n)
  | none=>none
 | _=>none
def HC(k:Nat)(x:SV):SV:=match x with
 | .agg l=>.agg (l.map fun y=>if y.bC k then .any else y)
 | .bG l=>.bG l
 | x=>if x.bC k then .any else x
def wM(k:Nat)(x:SV):SV:=match x with
 | .agg l=>.agg (l.map fun y=>if y.bC k then .any else y)
 | .bG l=>.bG (l.map (HC k))
 | x=>if x.bC k then .any else x
def BB(k:Nat)(es:List SV):List SV:=if SV.aX k es then es.map (wM k) else es
def uN(k:Nat)(M:aJ):aJ:=M.map fun oe=>oe.map fun e=>⟨e.sz,BB k e.es,e.fz⟩
def Cq(k:Nat)(M:aJ):aJ:=if fR k M then M else uN k M
def xt(b:Option SV)(M:aJ):aJ:=match b with
 | some (.view k _ _)=>Cq k M
 | _=>M
theorem B0(b:Option SV)(M:aJ):(xt b M).length=M.length:=by
 unfold xt;split
 ·unfold Cq uN;split<;>simp
 ·rfl
def j7(P:Program)(fx:List Nat)(M:aJ)(ti ti2:Option TI)(b x:Option SV):cr :=
 match ti,ti2,b with
 | some ⟨.sl el,_,_,_⟩,some ⟨.sl _,_,_,_⟩,some (.view k 0 n) =>
  match az P el,ao M k with
  | some te,some ⟨sz,es,false⟩ =>
   match ke M te x with
   | some (c,ys)=>.m (k∉fx∧c∧n=es.length∧sz=te.size∧fR k M=true∧SV.aX k ys=false∧(∀y∈ys,y.aM=false)∧(es.length+ys.length)*te.bytes≤70368744177664∧0<te.bytes)
     (aN M k (some ⟨sz,es++ys,false⟩)) [k] (some (.view k 0 (n+ys.length)))
   | none=>.stuck
  | _,_=>.stuck
 | some ⟨.sl el,_,_,_⟩,some ⟨.sl _,_,_,_⟩,some (.val (.slice none 0 0)) =>
  match az P el with
  | some te =>
   match ke M te x with
   | some (c,ys)=>.m (c∧fR M.length M=true∧SV.aX M.length ys=false∧(∀y∈ys,y.aM=false)∧ys.length*te.bytes≤70368744177664∧0<te.bytes)
     (M++[some ⟨te.size,ys,false⟩]) [M.length] (some (.view M.length 0 ys.length))
   | none=>.stuck
  | _=>.stuck
 | _,_,_=>.stuck
def gX(P:Program)(fx:List Nat)(M:aJ)(ti ti2:Option TI)(b x:Option SV):cr:=j7 P fx (xt b M) ti ti2 b x
def yB(P:Program)(M:aJ)(ti:Option TI)(b x:Option SV):cr :=
 match ti,b with
 | some ⟨.sl el,_,_,_⟩,some (.view k 0 n) =>
  match az P el,ao M k with
  | some te,some ⟨sz,es,false⟩ =>
   match ke M te x with
   | some (c,ys)=>.m (c∧n=es.length∧ys.length=n∧sz=te.size∧∀y∈ys,y.aM=false) (aN M k (some ⟨sz,ys,false⟩)) [] (some (.val (.int .i64 n)))
   | none=>.stuck
  | _,_=>.stuck
 | _,_=>.stuck
section
variable {P:Program} {C:Ctx} {β:bO} {H:Hp} {M:aJ} {w:World} {c:Prop}
theorem wN(hW:cv C β H M w){te:TI}{x:Option SV}{u:Value}{ys:List SV}(h:ke M te x=some (c,ys))(hc:c)(hx:∀s,x=some s→Den β H s u) :
  ∃vs,aU β H te.size ys vs∧(Builtin.lenOf u).run P w=.ok ys.length w∧∀w',w'.heap=w.heap→(Builtin.firstCells te.size ys.length u).run P w'=.ok vs.toArray w':=by
 unfold ke at h;split at h
 ·rename_i zs;simp only[al0,Prod.mk.injEq]at h;obtain⟨rfl,rfl⟩:=h;have hu:=hx _ rfl;simp only[Den]at hu;rcases hu with⟨rfl,a0,c0,rfl⟩ | ⟨b,o,c',s,cs,vs,rfl,g2,g3,g4,g5⟩
  ·refine⟨[],by simp[aU],by simp[Builtin.lenOf],fun w' _=>?_⟩;cases a0<;>simp[Builtin.firstCells,loadCells,loadCellsFrom]
  ·obtain⟨T,z,hb⟩:=hW.inv b cs g3;have hl:=g4.length;have hs:s*1=te.size∨zs=[]:=by
    by_cases hne:zs=[]
    ·exact .inr hne
    ·obtain⟨g6,g7⟩:=hc hne;obtain⟨y,hy1,hy2, -⟩:=g4.get (i:=0) (List.length_pos_iff.2 hne);rw[←g6,←hy2,ami];exact .inl (hy1.MD g7)
   rcases hs with hs | rfl
   ·rw[ami]at hs;subst hs;refine⟨vs,aU.mono (fun _ _ h=>h) _ _ _ (fun k d _ hd=>by simp[lF]at hd) g4,by simp[Builtin.lenOf],fun w' hw'=>?_⟩;have hld:=run_loadCells (P:=P) (w:=w') (o:=o) (by rw[hw'];exact hb) vs g5;rw[hl]at hld;simpa[Builtin.firstCells]using hld
   ·refine⟨[],by simp[aU],by simp[Builtin.lenOf],fun w' _=>?_⟩;simp[Builtin.firstCells,loadCells,loadCellsFrom]
 ·rename_i k i n;split at h
  ·rename_i e he;simp only[al0,Prod.mk.injEq]at h;obtain⟨rfl,rfl⟩:=h;obtain⟨c1,c2⟩:=hc;have hu:=hx _ rfl;simp only[Den]at hu;have hlen:((e.es.drop i).take n).length=n:=by simp;omega
   rcases hu with⟨_,rfl,rfl,rfl⟩ | ⟨d,c',o,g1,g2,g3,g4,rfl⟩
   ·exact⟨[],by simp[aU],by simp[Builtin.lenOf],fun w' _=>by simp[Builtin.firstCells]⟩
   ·rcases hW.da k e (aL he)with⟨h4,_⟩ | ⟨d',cs,T,vs,h4,h5,h6,h7,h8,h9,h10, -⟩ | ⟨d',ms,h4,h5,h6,h7⟩
    rotate_left 2
    ·rw[g1]at h4;simp only[al0]at h4;subst h4;obtain⟨-,h5a,h5b⟩:=h5;rw[h5a,h5b]at g3;have hn0:n=0:=by omega
     subst hn0;exact⟨[],by simp[aU],by simp[Builtin.lenOf],fun w' _=>by simp[Builtin.firstCells,loadCells,loadCellsFrom]⟩
    ·rw[g1]at h4;simp at h4
    ·rw[g1]at h4;simp only[al0]at h4;subst h4;rw[c1]at h8;have hl:=h8.length;refine⟨(vs.drop (i*te.size)).take (n*te.size),(h8.drop i).take n,by simp[Builtin.lenOf,hlen],fun w' hw'=>?_⟩;rw[hlen];rcases amy n with rfl | hn
     ·simp[Builtin.firstCells,loadCells,loadCellsFrom]
     ·have ho:=g4 (by omega);have hvl:((vs.drop (i*te.size)).take (n*te.size)).length=n*te.size:=by
       have:(i+n)*te.size≤e.es.length*te.size:=amh _ c2;rw[alV]at this;simp;omega
      have hld:=run_loadCells (P:=P) (w:=w') (o:=o) (by rw[hw'];exact h6) ((vs.drop (i*te.size)).take (n*te.size)) (fun q hq=>by
       rw[hvl]at hq;rw[List.getElem?_take_of_lt hq,List.getElem?_drop,ho,h5,c1];refine h10 _ ?_;have:(i+n)*te.size≤e.es.length*te.size:=amh _ c2;rw[alV]at this;omega)
      rw[hvl]at hld;simpa[Builtin.firstCells]using hld
  ·cases h
 ·cases h
theorem aU.Dp{s:Nat}:∀{l:List SV} {vs:List Value},aU β H s l vs→(∀x∈l,x.aM=false)→∀v∈vs,v.oneCell'=true
 | [],vs,h,_,v,hv=>by simp only[aU]at h;simp[h]at hv
 | x::l,vs,h,ht,v,hv=>by
  simp only[aU]at h;obtain⟨u,r,rfl,h2,h3,h4⟩:=h;rcases List.mem_append.1 hv with hv | hv
  ·exact(h3.pE (wK (ht x (by simp)))).Dp v hv
  ·exact h4.Dp (fun y hy=>ht y (by simp[hy])) v hv
theorem Bm{k:Nat}(h:fR k M=true){i:Nat}{e:cx}(hi:M[i]?=some (some e)):SV.aX k e.es=false:=by
 simp only[fR,List.all_eq_true]at h;have:=h _ (List.mem_of_getElem? hi);simpa using this
theorem cv.rebind(h:cv C β H M w){k:Nat}(hfx:∀d,k∈C.fx→C.b0 k≠some d){e:cx}(hk:M[k]?=some (some e))(hn:fR k M=true){cs:Array Value}{T:TypeId}{es:List SV}{vs:List Value}
  (hd:aU β H e.sz es vs) (hu:SV.aX k es=false) (hl:vs.length≤cs.size) (hc:∀i,i<vs.length→cs[i]?=vs[i]?) :
  cv C (β.dT k (some ⟨w.heap.size,cs.size,e.sz⟩)) H (M.set k (some ⟨e.sz,es,false⟩)) (w.alloc (.cells cs T)) where
 os:=h.os
 tape:=h.tape
 output:=h.output
 size:=by have:=h.size;simp;omega
 frame b hb hx:=by rw[heap_alloc_old (by have:=h.size;omega)];exact h.frame b hb hx
 ext:=h.ext
 new:=h.new
 inv b cs' hb:=by obtain⟨T',z,h'⟩:=h.inv b cs' hb;exact⟨T',z,by rw[heap_alloc_old (gn h')];exact h'⟩
 da i e' hi:=by
  have hupd:∀j,j≠k→∀d,β j=some d→(β.dT k (some ⟨w.heap.size,cs.size,e.sz⟩)) j=some d:=fun j hj d hd=>by simp only[bO.dT];rw[if_neg hj];exact hd
  rcases getElem?_set_cases hi with⟨rfl,he,_⟩ | ⟨hne,hi'⟩
  ·simp only[al0]at he;subst he;exact .inr (.inl ⟨_,cs,T,vs,by simp[bO.dT];rfl,rfl,heap_alloc_new,rfl,aU.mono (fun _ _ h=>h) _ _ _ (fun j d hj=>hupd j (fun e=>by subst e;simp only at hj;rw[hu]at hj;cases hj) d) hd,hl,hc,fun hf=>by cases hf⟩)
  ·have hno:=Bm hn hi';rcases h.da i e' hi' with⟨h1,h2⟩ | ⟨d,cs',T',vs',h1,h2,h3,h4,h5,h6,h7,h8⟩ | ⟨d,ms,h1,h2,h3,h4⟩
   ·exact .inl ⟨hupd i hne _ h1,h2⟩
   ·exact .inr (.inl ⟨d,cs',T',vs',hupd i hne _ h1,h2,by rw[heap_alloc_old (gn h3)];exact h3,h4,aU.mono (fun _ _ h=>h) _ _ _ (fun j d hj=>hupd j (fun e=>by subst e;rw[hno]at hj;cases hj) d) h5,h6,h7,h8⟩)
   ·exact .inr (.inr ⟨d,ms,hupd i hne _ h1,h2,by rw[heap_alloc_old (gn h3)];exact h3,cH.mono (fun _ _ h=>h) _ _ _ (fun j d hj=>hupd j (fun e=>by subst e;rw[hno]at hj;cases hj) d) h4⟩)
 own i e' d hi hd':=by
  rcases getElem?_set_cases hi with⟨rfl,he,_⟩ | ⟨hne,hi'⟩
  ·simp only[bO.dT,if_true,al0]at hd';subst hd';refine⟨fun _=>?_,.inl h.size⟩;cases hH:H w.heap.size with
   | none=>rfl
   | some cs'=>have:=h.aF hH;omega
  ·simp only[bO.dT]at hd';rw[if_neg hne]at hd';exact h.own i e' d hi' hd'
 inj i i' e1 e2 d1 d2 hi hi' hd1 hd2 hb:=by
  by_cases e1':i=k<;>by_cases e2':i'=k
  ·rw[e1',e2']
  ·subst e1';simp only[bO.dT]at hd1 hd2;simp only[if_true,al0]at hd1;rw[if_neg e2']at hd2;subst hd1;rcases getElem?_set_cases hi' with⟨rfl,_,_⟩ | ⟨_,hi2⟩
   ·exact absurd rfl e2'
   ·have:=h.lt hi2 hd2;simp only at hb;omega
  ·subst e2';simp only[bO.dT]at hd1 hd2;simp only[if_true,al0]at hd2;rw[if_neg e1']at hd1;subst hd2;rcases getElem?_set_cases hi with⟨rfl,_,_⟩ | ⟨_,hi2⟩
   ·exact absurd rfl e1'
   ·have:=h.lt hi2 hd1;simp only at hb;omega
  ·simp only[bO.dT]at hd1 hd2;rw[if_neg e1']at hd1;rw[if_neg e2']at hd2;rcases getElem?_set_cases hi with⟨rfl,_,_⟩ | ⟨_,hi2⟩
   ·exact absurd rfl e1'
   ·rcases getElem?_set_cases hi' with⟨rfl,_,_⟩ | ⟨_,hi2'⟩
    ·exact absurd rfl e2'
    ·exact h.inj i i' e1 e2 d1 d2 hi2 hi2' hd1 hd2 hb
 fresh i hi:=by
  simp only[List.length_set]at hi;have hkl:k<M.length:=by
   rcases amz k M.length with h' | h'
   ·exact h'
   ·rw[al2 h']at hk;cases hk
  simp only[bO.dT];rw[if_neg (by omega)];exact h.fresh i hi
 fU i d hi hd:=by
  simp only[bO.dT];rw[if_neg (fun e=>by subst e;exact hfx d hi hd)];exact h.fU i d hi hd
 eW:=h.eW
theorem tC(hW:cv C β H M w){k:Nat}(hfx:∀d,k∈C.fx→C.b0 k≠some d){sz:Nat}{es ys:List SV}(hk:M[k]?=some (some ⟨sz,es,false⟩))(hn:fR k M=true)(huy:SV.aX k ys=false)(hty:∀y∈ys,y.aM=false)
  {ts:Array TypeId} {t0 t1 el el1 ty:TypeId} {te:TI} {s0 b0 s1 b1:Nat} {z0 z1:List SV} (h0:ts[0]?=some t0) (h1:ts[1]?=some t1)
  (ht0:az P t0=some ⟨.sl el,s0,b0,z0⟩) (ht1:az P t1=some ⟨.sl el1,s1,b1,z1⟩) (hte:az P el=some te) (pW:sz=te.size)
  {u v:Value} (hu:Den β H (.view k 0 es.length) u) {vs:List Value} (hv1:aU β H te.size ys vs) (hv2:(Builtin.lenOf v).run P w=.ok ys.length w)
  (hv3:∀w',w'.heap=w.heap→(Builtin.firstCells te.size ys.length v).run P w'=.ok vs.toArray w')
  (hb:(es.length+ys.length)*te.bytes≤70368744177664) (hb0:0<te.bytes) :
  ∃z w' β',(Builtin.append_ ts ty #[u,v]).run P w=.ok z w'∧cv C β' H (M.set k (some ⟨sz,es++ys,false⟩)) w'∧Den β' H (.view k 0 (es.length+ys.length)) z ∧
   (∀j d,j≠k→β j=some d→β' j=some d)∧w.heap.size≤w'.heap.size∧∀b,b<w.heap.size→(∀d,β k=some (some d)→b≠d.b)→w'.heap[b]?=w.heap[b]?:=by
 subst pW;obtain⟨i0,d0,zz0,hy0⟩:=ay ht0;obtain⟨i1,d1,zz1,hy1⟩:=ay ht1;obtain⟨ie,de,ze,hye⟩:=ay hte;obtain rfl:=ka hy0.k;obtain rfl:=ka hy1.k;obtain⟨zv,hz1,hz2,hz3⟩:=oX hye β H;have hbytes:ie.bytes=te.bytes:=hye.bytes.symm;have hneed:es.length+ys.length≤70368744177664:=by
  calc es.length+ys.length=(es.length+ys.length)*1:=(ami _).symm
   _≤(es.length+ys.length)*te.bytes:=Nat.mul_le_mul_left _ hb0
   _≤_:=hb
 have hlv:=hv1.length;have hsame:ys=[]→M.set k (some ⟨te.size,es++ys,false⟩)=M:=fun hy=>by
  subst hy;have hkl:k<M.length:=by
   rcases amz k M.length with h' | h'
   ·exact h'
   ·rw[al2 h']at hk;cases hk
  apply amr;intro q;by_cases hq:k=q
  ·subst hq;rw[amv hkl,hk];simp
  ·rw[amw hq]
 have hsl:GV P el=te.size:=by simp[GV,hye.info,hye.size]
 have hex:∃base cap,u=.slice base es.length cap∧es.length≤cap:=by
  simp only[Den]at hu;rcases hu with⟨_,_,hl,hu⟩ | ⟨d,c',o,_,hc',_,_,hu⟩
  ·exact⟨none,0,by rw[hl];exact hu,by omega⟩
  ·exact⟨_,c',hu,hc'⟩
 obtain⟨base,cap,rfl,hcap⟩:=hex;rcases amy ys.length with hy0' | hypos
 ·have hyn:ys=[]:=amx.1 hy0';have hvn:vs=[]:=amx.1 (by rw[hlv,hy0'];simp);have hf:=hv3 w rfl;rw[hvn,hy0']at hf;rw[hy0']at hv2;refine⟨.slice base es.length cap,w,β,?_,by rw[hsame hyn];exact hW,by rw[hy0',amA];exact hu,fun _ _ _ h=>h,amk _,fun _ _ _=>rfl⟩;cases base<;>simp[Builtin.append_,h0,h1,hy0.aK,hy1.aK,hye.eK,hv2,hcap,hf,storeCells]
 ·by_cases hroom:es.length+ys.length≤cap
  ·-- in place
   simp only[Den]at hu;rcases hu with⟨_,_,_,hu⟩ | ⟨d,c',o,g1,g2,g3,g4,hu⟩
   ·simp only[Value.slice.injEq]at hu;omega
   ·simp only[Value.slice.injEq]at hu;obtain⟨rfl, -,rfl⟩:=hu;have ho:=g4 (by omega);rw[amB]at ho;subst ho;rcases hW.da k _ hk with⟨h4,_⟩ | ⟨d',cs,T,vs0,h4,h5,h6,h7,h8,h9,h10, -⟩ | ⟨d',ms,h4,h5,h6,h7⟩
    rotate_left 2
    ·rw[g1]at h4;simp only[al0]at h4;subst h4;rw[h5.2.1,h5.2.2]at g3;omega
    ·rw[g1]at h4;simp at h4
    ·rw[g1]at h4;simp only[al0]at h4;subst h4;simp only at h5 h8;have hl0:=h8.length;have hcapm:(es.length+ys.length)*te.size≤cs.size:=by
      rw[h7]
      calc (es.length+ys.length)*te.size≤cap*te.size:=amh _ hroom
       _=(0+cap)*d.sz:=by rw[amC,h5]
       _≤d.Gr:=g3
     rw[alV]at hcapm;have hones:∀x∈vs,x.oneCell'=true:=hv1.Dp hty;obtain⟨w',cs',r1,r2,r3,r4⟩:=iL (P:=P) vs w (es.length*te.size) 0 cs h6 (by rw[hlv];omega) hones;have hf:=hv3 w rfl;refine⟨.slice (some ⟨d.b,0,none⟩) (es.length+ys.length) cap,w',β,?_,?_,?_,fun _ _ _ h=>h,by rw[r2.size];exact amk _,fun b _ hb=>r2.there b (hb d g1)⟩
     ·simp[Builtin.append_,h0,h1,hy0.aK,hy1.aK,hye.eK,hv2,hroom,hf,Addr.add_eq,r1]
     ·refine hW.write hk rfl g1 h5 r2 (by rw[r3,h7]) (h8.append hv1) (by rw[al3,hl0,hlv,r3];omega) (fun q hq=>?_);rw[al3,hl0,hlv]at hq;rw[r4];simp only[amA];by_cases hq':q<es.length*te.size
      ·rw[if_neg (by omega),alX (by omega)];exact h10 q (by omega)
      ·rw[if_pos (by rw[hlv];omega),List.getElem?_append_right (by omega),hl0]
     ·simp only[Den];right;exact⟨d,cap,0,g1,hroom,g3,fun _=>by simp,rfl⟩
  ·-- a new block
   have hold:∃olds:List Value,aU β H te.size es olds∧(Builtin.firstCells te.size es.length (.slice base es.length cap)).run P w.drew=.ok olds.toArray w.drew:=by
    simp only[Den]at hu;rcases hu with⟨_,_,hl,hu⟩ | ⟨d,c',o,g1,g2,g3,g4,hu⟩
    ·simp only[Value.slice.injEq]at hu;obtain⟨rfl, -,rfl⟩:=hu;have:es=[]:=amx.1 hl;subst this;exact⟨[],by simp[aU],by simp[Builtin.firstCells]⟩
    ·simp only[Value.slice.injEq]at hu;obtain⟨rfl, -,rfl⟩:=hu;rcases hW.da k _ hk with⟨h4,_⟩ | ⟨d',cs,T,vs0,h4,h5,h6,h7,h8,h9,h10, -⟩ | ⟨d',ms,h4,h5,h6,h7⟩
     rotate_left 2
     ·rw[g1]at h4;simp only[al0]at h4;subst h4;rw[h5.2.1,h5.2.2]at g3;have:es=[]:=amx.1 (by omega);subst this;exact⟨[],by simp[aU],by simp[Builtin.firstCells,loadCells,loadCellsFrom]⟩
     ·rw[g1]at h4;simp at h4
     ·rw[g1]at h4;simp only[al0]at h4;subst h4;simp only at h5 h8;have hl0:=h8.length;refine⟨vs0,h8,?_⟩;rcases amy es.length with he | he
      ·have:vs0=[]:=amx.1 (by rw[hl0,he];simp);subst this;rw[he];simp[Builtin.firstCells,loadCells,loadCellsFrom]
      ·have ho:=g4 (by omega);rw[amB]at ho;subst ho;have hld:=run_loadCells (P:=P) (w:=w.drew) (o:=0) (T:=T) (z:=(0,0)) (b:=d.b) h6 vs0 (fun q hq=>by rw[amC];exact h10 q hq);rw[hl0]at hld;simpa[Builtin.firstCells]using hld
   obtain⟨olds,ho1,ho2⟩:=hold;have hlo:=ho1.length;have hf:=hv3 w.drew rfl;have h48:¬(281474976710656<Builtin.nextslicecap (es.length+ys.length) cap*ie.bytes):=by
    have:=growslice_fits (need:=es.length+ys.length) (old:=cap) (bytes:=ie.bytes) (by omega) (by rw[hbytes];omega);omega
   have h63:¬(9223372036854775807<(es.length:Int)+(ys.length:Int)):=by omega
   have hnd:Den (β.dT k (some ⟨w.heap.size,(olds++vs).length+(grownCap w (es.length+ys.length) cap el - (es.length+ys.length))*ze.cells.size,te.size⟩)) H (.view k 0 (es.length+ys.length))
     (.slice (some ⟨w.heap.size,0,none⟩) (es.length+ys.length) (grownCap w (es.length+ys.length) cap el)):=by
    simp only[Den];right;refine⟨_,grownCap w (es.length+ys.length) cap el,0,by simp[bO.dT];rfl,grownCap_ge _ _ _ _,?_,fun _=>by simp,rfl⟩;have hge:=grownCap_ge w (es.length+ys.length) cap el;simp only[amC,hlo,hlv,hz3];rw[←alV,←alV];exact amh _ (by omega)
   have hues:SV.aX k es=false:=Bm hn hk;have hWr:=(hW.drew).rebind (T:=el) hfx hk hn (cs:=olds.toArray++vs.toArray++Builtin.zeroCells ze.cells (grownCap w (es.length+ys.length) cap el - (es.length+ys.length)))
    (ho1.append hv1) (by
     have:∀a b:List SV,SV.aX k (a++b)=(SV.aX k a||SV.aX k b):=fun a b=>by
      induction a with
      | nil=>simp[SV.aX]
      | cons x a ih=>simp[SV.aX,ih,Bool.or_assoc]
     rw[this,hues,huy];rfl) (by simp) (fun q hq=>by
     rw[←Array.getElem?_toList];simp only[Array.toList_append];rw[alX hq])
   have hcsz:(olds.toArray++vs.toArray++Builtin.zeroCells ze.cells (grownCap w (es.length+ys.length) cap el - (es.length+ys.length))).size =
     (olds++vs).length+(grownCap w (es.length+ys.length) cap el - (es.length+ys.length))*ze.cells.size:=by
    simp[size_zeroCells]
   rw[hcsz]at hWr;refine⟨.slice (some ⟨w.heap.size,0,none⟩) (es.length+ys.length) (grownCap w (es.length+ys.length) cap el),_,_,?_,hWr,hnd,fun j d hj hd=>by simp only[bO.dT];rw[if_neg hj];exact hd,by simp,fun b hb _=>?_⟩
   ·simp[Builtin.append_,h0,h1,hy0.aK,hy1.aK,hye.eK,hye.uJ,hye.jY,hv2,hroom,hf,ho2,h48,h63,Question.forced,newRow,grownCap];congr 2;apply Array.ext';simp[List.append_assoc]
   ·rw[heap_alloc_old (by simpa using hb)];rfl
theorem uT{k:Nat}:∀{l:List SV} {vs:List Value},bh β H l vs→bh β H (l.map fun y=>if y.bC k then .any else y) vs
 | [],vs,h=>by simpa[bh]using h
 | y::l,vs,h=>by
  simp only[bh]at h;obtain⟨v,r,rfl,h1,h2,h3⟩:=h;simp only[amc,bh];refine⟨v,r,rfl,?_,?_,uT h3⟩
  ·split
   ·rfl
   ·exact h1
  ·split
   ·simp only[Den];exact Den.one h2 h1
   ·exact h2
theorem B3{k:Nat}:∀{x:SV} {v:Value},Den β H x v→Den β H (HC k x) v:=by
 intro x v h;unfold HC;split
 ·rename_i l;simp only[Den]at h ⊢;obtain⟨vs,rfl,h⟩:=h;exact⟨vs,rfl,uT h⟩
 ·exact h
 ·rename_i hna hnt;split
  ·simp only[Den];refine Den.one h ?_;cases x<;>simp_all [SV.one,SV.bC]
  ·exact h
theorem AP{k:Nat}:∀{l:List SV} {vs:List Value},bF β H l vs→bF β H (l.map (HC k)) vs
 | [],vs,h=>by simpa[bF]using h
 | y::l,vs,h=>by
  simp only[bF]at h;obtain⟨v,r,rfl,h2,h3⟩:=h;simp only[amc,bF];exact⟨v,r,rfl,B3 h2,AP h3⟩
theorem Iw{k:Nat}:∀{x:SV} {v:Value},Den β H x v→Den β H (wM k x) v:=by
 intro x v h;unfold wM;split
 ·rename_i l;simp only[Den]at h ⊢;obtain⟨vs,rfl,h⟩:=h;exact⟨vs,rfl,uT h⟩
 ·simp only[Den]at h ⊢;obtain⟨vs,rfl,h⟩:=h;exact⟨vs,rfl,AP h⟩
 ·rename_i hna hnt;split
  ·simp only[Den];refine Den.one h ?_;cases x<;>simp_all [SV.one,SV.bC]
  ·exact h
theorem Ah{k:Nat}:∀{es:List SV} {ms:List MapEntry} {n:Nat},cH β H es ms n→cH β H (es.map (wM k)) ms n
 | [],ms,n,h=>by simpa[cH]using h
 | x::es,ms,n,h=>by
  simp only[cH]at h;obtain⟨key,y,m,r,rfl,h2,h3,h4,h5,h6,h7⟩:=h;simp only[amc,cH];exact⟨key,HC k y,m,r,rfl,h2,h3,h4,h5,B3 h6,Ah h7⟩
theorem Bc{k s:Nat}:∀{es:List SV} {vs:List Value},aU β H s es vs→aU β H s (es.map (wM k)) vs
 | [],vs,h=>by simpa[aU]using h
 | x::es,vs,h=>by
  simp only[aU]at h;obtain⟨v,r,rfl,h1,h2,h3⟩:=h;simp only[amc,aU];exact⟨v,r,rfl,h1,Iw h2,Bc h3⟩
theorem cv.Cq(h:cv C β H M w)(k:Nat):cv C β H (Sv.Cq k M) w:=by
 unfold Sv.Cq;split
 ·exact h
 ·have at_:∀(i:Nat) (e:cx),(uN k M)[i]?=some (some e)→∃e0:cx,M[i]?=some (some e0)∧e=⟨e0.sz,BB k e0.es,e0.fz⟩:=fun i e hi=>by
   simp only[uN,List.getElem?_map]at hi;cases hm:M[i]? with
   | none=>rw[hm]at hi;cases hi
   | some oe =>
    rw[hm]at hi;cases oe with
    | none=>simp at hi
    | some e0=>simp at hi;exact⟨e0,rfl,hi.symm⟩
  refine⟨h.os,h.tape,h.output,h.size,h.frame,h.ext,h.new,h.inv,fun i e hi=>?_,fun i e d hi hd=>?_,fun i i' e1 e2 d1 d2 hi hi' hd1 hd2 hb=>?_,fun i hi=>h.fresh i (by simpa[uN]using hi),h.fU,h.eW⟩
  ·obtain⟨e0,he0,rfl⟩:=at_ i e hi;rcases h.da i e0 he0 with⟨h1,h2⟩ | ⟨d,cs,T,vs,h1,h2,h3,h4,h5,h6,h7,h8⟩ | ⟨d,ms,h1,h2,h3,h4⟩
   rotate_left 2
   ·refine .inr (.inr ⟨d,ms,h1,h2,h3,?_⟩);simp only[BB];split
    ·exact Ah h4
    ·exact h4
   ·exact .inl ⟨h1,by simp[BB,h2,SV.aX]⟩
   ·refine .inr (.inl ⟨d,cs,T,vs,h1,h2,h3,h4,?_,h6,h7,fun hf=>?_⟩)
    ·simp only[BB];split
     ·exact Bc h5
     ·exact h5
    ·obtain⟨g1,g2⟩:=h8 hf;refine⟨g1,?_⟩;simp only[BB];rw[if_neg (by rw[SV.fY k e0.es g2];simp)];exact g2
  ·obtain⟨e0,he0,rfl⟩:=at_ i e hi;exact h.own i e0 d he0 hd
  ·obtain⟨e0,he0,rfl⟩:=at_ i e1 hi;obtain⟨e0',he0',rfl⟩:=at_ i' e2 hi';exact h.inj i i' e0 e0' d1 d2 he0 he0' hd1 hd2 hb
theorem cv.xt(h:cv C β H M w)(b:Option SV):cv C β H (Sv.xt b M) w:=by
 unfold Sv.xt;split
 ·exact h.Cq _
 ·exact h
theorem BW(hW:cv C β H M w){ts:Array TypeId}{ty:TypeId}{b x:Option SV}{u v:Value}{M':aJ}{pk:List Nat}{r:Option SV}
  (h:gX P C.fx M ((ts[0]?).bind (az P)) ((ts[1]?).bind (az P)) b x=.m c M' pk r) (hc:c) (hb:∀s,b=some s→Den β H s u) (hx:∀s,x=some s→Den β H s v) :
  ∃k y z w' β',pk=[k]∧r=some y∧(Builtin.append_ ts ty #[u,v]).run P w=.ok z w'∧cv C β' H M' w'∧Den β' H y z ∧
   (∀j d,j≠k→β j=some d→β' j=some d)∧w.heap.size≤w'.heap.size∧∀b,b<w.heap.size→(∀d,β k=some (some d)→b≠d.b)→w'.heap[b]?=w.heap[b]?:=by
 unfold gX at h;replace hW:=hW.xt b;generalize xt b M=M at *;unfold j7 at h;have ht:∀(i:Nat) (ti:TI),(ts[i]?).bind (az P)=some ti→∃t,ts[i]?=some t∧az P t=some ti:=fun i ti hh=>by
  cases e:ts[i]? with
  | none=>rw[e]at hh;cases hh
  | some t=>rw[e]at hh;exact⟨t,rfl,hh⟩
 split at h
 ·rename_i el _ _ _ _ _ _ _ k n h0 h1;obtain⟨t0,h0,h0'⟩:=ht _ _ h0;obtain⟨t1,h1,h1'⟩:=ht _ _ h1;split at h
  ·rename_i te sz es hte he;split at h
   ·rename_i cc ys hys;simp only[cr.m.injEq]at h;obtain⟨rfl,rfl,rfl,rfl⟩:=h;obtain⟨c0,c1,c2,c3,c4,c5,c6,c7,c8⟩:=hc;subst c2;obtain⟨vs,e1,e2,e3⟩:=wN hW hys c1 hx;obtain⟨z,w',β',g1,g2,g3,g4,g5,g6⟩:=tC (ty:=ty) hW (fun d hi=>absurd hi c0) (aL he) c4 c5 c6 h0 h1 h0' h1' hte c3 (hb _ rfl) e1 e2 e3 c7 c8;exact⟨k,_,z,w',β',rfl,rfl,g1,by rw[ez];exact g2,g3,g4,g5,g6⟩
   ·cases h
  ·cases h
 ·rename_i el _ _ _ _ _ _ _ h0 h1;obtain⟨t0,h0,h0'⟩:=ht _ _ h0;obtain⟨t1,h1,h1'⟩:=ht _ _ h1;split at h
  ·rename_i te hte;split at h
   ·rename_i cc ys hys;simp only[cr.m.injEq]at h;obtain⟨rfl,rfl,rfl,rfl⟩:=h;obtain⟨c1,c4,c5,c6,c7,c8⟩:=hc;obtain⟨vs,e1,e2,e3⟩:=wN hW hys c1 hx;have hW2:=hW.nil te.size;have hu:=hb _ rfl;simp only[Den]at hu;obtain⟨rfl, -⟩:=hu;have hM:(M++[some (⟨te.size,[],false⟩:cx)])[M.length]?=some (some ⟨te.size,[],false⟩):=by simp
    have hno:fR M.length (M++[some ⟨te.size,[],false⟩])=true:=by
     simp only[fR,List.all_append,Bool.and_eq_true]at c4 ⊢;exact⟨c4,rfl⟩
    have hu2:Den (β.dT M.length none) H (.view M.length 0 ([]:List SV).length) (.slice none 0 0):=by
     simp only[Den];left;simp[bO.dT]
    have e1':aU (β.dT M.length none) H te.size ys vs:=aU.mono (fun _ _ h=>h) _ _ _ (fun j d _ hd=>fS hW _ j d hd) e1;obtain⟨z,w',β',g1,g2,g3,g4,g5,g6⟩:=tC (ty:=ty) hW2 (fun d hi hd=>by have:=hW.fU _ d hi hd;rw[hW.fresh _ (amk _)]at this;cases this) hM hno c5 c6 h0 h1 h0' h1' hte rfl hu2 e1' e2 e3 (by simpa using c7) c8;refine⟨M.length,_,z,w',β',rfl,rfl,g1,?_,by simpa using g3,fun j d hj hd=>g4 j d hj (fS hW _ j d hd),g5,fun b hb' _=>g6 b hb' (fun d hd=>?_)⟩
    ·have:(M++[some (⟨te.size,[],false⟩:cx)]).set M.length (some ⟨te.size,[]++ys,false⟩)=M++[some ⟨te.size,ys,false⟩]:=by simp
     rw[this]at g2;exact g2
    ·simp[bO.dT]at hd
   ·cases h
  ·cases h
 ·cases h
theorem E3(hW:cv C β H M w){ts:Array TypeId}{ty:TypeId}{b x:Option SV}{u v:Value}{M':aJ}{pk:List Nat}{r:Option SV}
  (h:yB P M ((ts[0]?).bind (az P)) b x=.m c M' pk r) (hc:c) (hb:∀s,b=some s→Den β H s u) (hx:∀s,x=some s→Den β H s v) :
  ∃k i n y z w',pk=[]∧b=some (.view k i n)∧r=some y∧(Builtin.copy_ ts ty #[u,v]).run P w=.ok z w'∧cv C β H M' w'∧Den β H y z ∧
   w'.heap.size=w.heap.size∧∀b,b<w.heap.size→(∀d,β k=some (some d)→b≠d.b)→w'.heap[b]?=w.heap[b]?:=by
 unfold yB at h;split at h
 ·rename_i el s1 b1 z1 k n h0;obtain⟨t0,ht0,h0'⟩:∃t,ts[0]?=some t∧az P t=some ⟨.sl el,s1,b1,z1⟩:=by
   cases e:ts[0]? with
   | none=>rw[e]at h0;cases h0
   | some t=>rw[e]at h0;exact⟨t,rfl,h0⟩
  split at h
  ·rename_i te sz es hte he;split at h
   ·rename_i cc ys hys;simp only[cr.m.injEq]at h;obtain⟨rfl,rfl,rfl,rfl⟩:=h;obtain⟨c1,c2,c3,c4,c5⟩:=hc;subst c2 c4;obtain⟨vs,e1,e2,e3⟩:=wN (P:=P) hW hys c1 hx;obtain⟨i0,d0,zz0,hy0⟩:=ay h0';obtain⟨ie,de,ze,hye⟩:=ay hte;obtain rfl:=ka hy0.k;have hk:=aL he;have hlv:=e1.length;have hf:=e3 w rfl;have hu:=hb _ rfl;simp only[Den]at hu;rcases amy es.length with hz | hpos
    ·have hyn:ys=[]:=amx.1 (by omega);have hen:es=[]:=amx.1 hz;subst hyn hen;have hvn:vs=[]:=amx.1 (by rw[hlv];simp);subst hvn;have hM:aN M k (some ⟨te.size,[],false⟩)=M:=by
      rw[ez];have hkl:k<M.length:=by
       rcases amz k M.length with h' | h'
       ·exact h'
       ·rw[al2 h']at hk;cases hk
      apply amr;intro q;by_cases hq:k=q
      ·subst hq;rw[amv hkl,hk]
      ·rw[amw hq]
     refine⟨k,0,0,_,.int .i64 0,w,rfl,rfl,rfl,?_,by rw[hM];exact hW,by simp[Den,Value.oneCell'],rfl,fun _ _ _=>rfl⟩;have hex:∃base cap,u=.slice base 0 cap:=by
      rcases hu with⟨_,_,_,hu⟩ | ⟨d,c',o,_,_,_,_,hu⟩
      ·exact⟨none,0,hu⟩
      ·exact⟨_,c',hu⟩
     obtain⟨base,cap,rfl⟩:=hex;simp only[List.length_nil]at e2 hf;cases base<;>simp[Builtin.copy_,ht0,hy0.aK,hye.eK,e2,hf,storeCells,goInt]
    ·rcases hu with⟨_,_,hu,_⟩ | ⟨d,c',o,g1,g2,g3,g4,rfl⟩
     ·omega
     ·have ho:=g4 (by omega);rw[amB]at ho;subst ho;rcases hW.da k _ hk with⟨h4,_⟩ | ⟨d',cs,T,vs0,h4,h5,h6,h7,h8,h9,h10, -⟩ | ⟨d',ms,h4,h5,h6,h7⟩
      rotate_left 2
      ·rw[g1]at h4;simp only[al0]at h4;subst h4;rw[h5.2.1,h5.2.2]at g3;omega
      ·rw[g1]at h4;simp at h4
      ·rw[g1]at h4;simp only[al0]at h4;subst h4;simp only at h5 h8;have hl0:=h8.length;have hones:∀x∈vs,x.oneCell'=true:=e1.Dp c5;obtain⟨w',cs',r1,r2,r3,r4⟩:=iL (P:=P) vs w 0 0 cs h6 (by rw[hlv,c3];omega) hones;refine⟨k,0,es.length,_,.int .i64 es.length,w',rfl,rfl,rfl,?_,?_,by simp[Den,Value.oneCell'],r2.size,fun b _ hb=>r2.there b (hb d g1)⟩
       ·rw[c3]at e2 hf;simp[Builtin.copy_,ht0,hy0.aK,hye.eK,e2,hf,r1,goInt]
       ·rw[ez];refine hW.write hk rfl g1 h5 r2 (by rw[r3,h7]) e1 (by rw[hlv,c3,r3];omega) (fun q hq=>?_);rw[r4];simp only[amA,amC,Nat.sub_zero];rw[if_pos ⟨by omega,hq⟩]
   ·cases h
  ·cases h
 ·cases h
end
end Go.Sv

